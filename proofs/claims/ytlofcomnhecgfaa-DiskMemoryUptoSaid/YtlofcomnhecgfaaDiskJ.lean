/- A disk that a call makes for itself; fixed of layer 6. Sizes are bounded. -/
import Derived.Test.YtlofcomnhecgfaaDiskI
namespace Go.Proofs.Ytlofcomnhecgfaa
namespace B
attribute [local irreducible] OpW WL CW Ret Sl Blk thn blk outOf
set_option linter.unusedVariables false
set_option linter.unusedSimpArgs false
set_option maxRecDepth 4000

/-- A disk made since w0. -/
def HD (w0 w : World) (db : Nat) (d : PD) : Prop := ∃ tag, (∀ k, k < w0.heap.size → (tag k).impl = false) ∧ DiskRep tag w db d ∧ Grow w0 w
section
variable {w0 wd w w' : World} {db : Nat} {d : PD}
theorem HD.grow (h : HD w0 w db d) (g : Grow w w') : HD w0 w' db d := by
  obtain ⟨tag, h1, ⟨FA, fcap, fs, h2⟩, h3⟩ := h
  exact ⟨tag, h1, ⟨FA, fcap, fs, h2.grow g⟩, h3.then g⟩
theorem HD.g (h : HD w0 w db d) : Grow w0 w := by obtain ⟨tag, h1, h2, h3⟩ := h; exact h3
theorem Went.hd {tag : Nat → Tag} {d' : PD} (h0 : ∀ k, k < w0.heap.size → (tag k).impl = false) (g : Grow w0 w) (h : Went tag w w' db d') : HD w0 w' db d' := by
  obtain ⟨tag', h1, h2, h3⟩ := h
  have hs := g.size
  refine ⟨tag', fun k hk => by rw [h1 k (by omega)]; exact h0 k hk, h2, g.chgNew h3 fun i hi hc => ?_⟩
  rw [h0 i hi] at hc; cases hc
theorem newHD (w : World) : Ret Try.prog 30 #[] w fun v w' => ∃ db, v = .pointer (some ⟨db, 0, none⟩) ∧ HD w w' db ⟨[], false, 0⟩ := by
  refine (new30 w).mono ?_
  rintro v w1 ⟨db, rfl, n1⟩
  refine ⟨db, rfl, fun k => if k < w.heap.size then .other else .disk, fun k hk => by simp only [hk, if_true]; rfl, ⟨none, 0, [], ?_⟩, n1.grow⟩
  exact ⟨by show (if _ then _ else _) = _; rw [if_neg (by have := n1.fresh; omega)], n1.blk, Own.nil _ _ _ _, rfl, fun i f fb h => by simp at h⟩
theorem appendHD (h : HD w0 wd db d) (g : Grow wd w) (s b : List UInt8) (B : Option Addr) (bcap : Nat) (ha : d.armed ≤ 9223372036854775807) (hn : d.files.length ≤ 16) (hs : s.length ≤ 1099511627776)
    (hb : Sl w B (bvs b)) (hB : b ≠ [] → ∀ a, B = some a → a.block < w0.heap.size ∨ wd.heap.size ≤ a.block) (hbl : b.length ≤ 1099511627776) (hd : ∀ f ∈ d.files, f.data.length ≤ 1099511627776) :
    Ret Try.prog 33 #[.pointer (some ⟨db, 0, none⟩), .string (bstr s), .slice B b.length bcap] w fun v w' => v = .int .i64 (d.append s b).1 ∧ HD w0 w' db (d.append s b).2 := by
  obtain ⟨tag, h1, ⟨FA, fcap, fs, h2⟩, h3⟩ := h
  have hR := (h2.retag (tag' := fun k => if k < wd.heap.size then tag k else .other) fun k hk => if_pos hk).grow g
  have hs3 := h3.size
  have h0 : ∀ k, k < w0.heap.size → ((fun k => if k < wd.heap.size then tag k else Tag.other) k).impl = false := fun k hk => by
    simp only [show k < wd.heap.size from by omega, if_true]; exact h1 k hk
  refine (append33 _ db d s b B bcap w ⟨FA, fcap, fs, hR⟩ ha hn hs hb (fun hne a ha => ?_) hbl hd).mono ?_
  · rcases hB hne a ha with h | h
    · exact h0 _ h
    · simp only [show ¬ a.block < wd.heap.size from by omega, if_false]; rfl
  · rintro v w1 ⟨hv, hw⟩
    exact ⟨hv, hw.hd h0 (h3.then g)⟩
theorem syncHD (h : HD w0 w db d) (s : List UInt8) (ha : d.armed ≤ 9223372036854775807) (hn : d.files.length ≤ 16) :
    Ret Try.prog 41 #[.pointer (some ⟨db, 0, none⟩), .string (bstr s)] w fun v w' => v = .int .i64 (d.sync s).1 ∧ HD w0 w' db (d.sync s).2 := by
  obtain ⟨tag, h1, ⟨FA, fcap, fs, h2⟩, h3⟩ := h
  refine (sync41 tag db FA fcap fs d s w h2 ha hn).mono ?_
  rintro v w1 ⟨hv, h4, h5⟩
  exact ⟨hv, Went.hd h1 h3 ⟨tag, fun _ _ => rfl, ⟨FA, fcap, fs, h4⟩, h5⟩⟩
theorem truncateHD (h : HD w0 w db d) (s : List UInt8) (n : Int) (ha : d.armed ≤ 9223372036854775807) (hn : d.files.length ≤ 16) :
    Ret Try.prog 56 #[.pointer (some ⟨db, 0, none⟩), .string (bstr s), .int .i64 n] w fun v w' => v = .int .i64 (d.truncate s n).1 ∧ HD w0 w' db (d.truncate s n).2 := by
  obtain ⟨tag, h1, ⟨FA, fcap, fs, h2⟩, h3⟩ := h
  refine (truncate56 tag db FA fcap fs d s n w h2 ha hn).mono ?_
  rintro v w1 ⟨hv, h4, h5⟩
  exact ⟨hv, Went.hd h1 h3 ⟨tag, fun _ _ => rfl, ⟨FA, fcap, fs, h4⟩, h5⟩⟩
theorem armHD (h : HD w0 w db d) (n : Int) :
    Ret Try.prog 32 #[.pointer (some ⟨db, 0, none⟩), .int .i64 n] w fun v w' => HD w0 w' db (d.arm n) := by
  obtain ⟨tag, h1, ⟨FA, fcap, fs, h2⟩, h3⟩ := h
  refine (arm32 tag db FA fcap fs d n w h2).mono ?_
  rintro v w1 ⟨h4, h5⟩
  exact Went.hd h1 h3 ⟨tag, fun _ _ => rfl, ⟨FA, fcap, fs, h4⟩, h2.toImpl h5⟩
theorem downHD (h : HD w0 w db d) : Ret Try.prog 34 #[.pointer (some ⟨db, 0, none⟩)] w fun v w' => v = .bool d.off ∧ Grow w w' := by
  obtain ⟨tag, h1, ⟨FA, fcap, fs, h2⟩, h3⟩ := h
  exact down34 tag db FA fcap fs d w h2
theorem readHD (h : HD w0 w db d) (s : List UInt8) (hn : d.files.length ≤ 16) (hd : ∀ f ∈ d.files, f.data.length ≤ 1099511627776) :
    Ret Try.prog 42 #[.pointer (some ⟨db, 0, none⟩), .string (bstr s)] w fun v w' => Grow w w' ∧ ∃ A cap, v = .tuple #[.slice A (d.read s).1.length cap, .int .i64 (d.read s).2] ∧ Own w' A 5 1 (d.read s).1.length cap (bvs (d.read s).1) (fresh w) := by
  obtain ⟨tag, h1, ⟨FA, fcap, fs, h2⟩, h3⟩ := h
  exact read42 tag db FA fcap fs d s w h2 hn hd
theorem waitingHD (h : HD w0 w db d) (hn : d.files.length ≤ 16) (hd : ∀ f ∈ d.files, f.data.length ≤ 1099511627776 ∧ f.safe ≤ f.data.length) :
    Ret Try.prog 40 #[.pointer (some ⟨db, 0, none⟩)] w fun v w' => Grow w w' ∧ v = .int .i64 (waitOf d.files) := by
  obtain ⟨tag, h1, ⟨FA, fcap, fs, h2⟩, h3⟩ := h
  exact waiting40 tag db FA fcap fs d w h2 hn hd
theorem crashHD (h : HD w0 w db d) (KA0 : Option Addr) (kcap0 : Nat) (ks : List Bool) (hn : d.files.length ≤ 16) (hd : ∀ f ∈ d.files, f.data.length ≤ 1099511627776 ∧ f.safe ≤ f.data.length)
    (hk : Sl w KA0 (ks.map .bool)) (hkl : ks.length ≤ 1099511627776) (hkc : ks.length ≤ kcap0) :
    Ret Try.prog 38 #[.pointer (some ⟨db, 0, none⟩), .slice KA0 ks.length kcap0] w fun v w' => Grow w w' ∧ ∃ (OA : Option Addr) (cap : Nat) (col : Nat → Bool), v = .slice OA (crashAll d.files ks).1.length cap ∧ FilesOut w' OA cap (crashAll d.files ks).1 (fun b => w.heap.size ≤ b ∧ col b = true) (fun b => w.heap.size ≤ b ∧ col b = false) := by
  obtain ⟨tag, h1, ⟨FA, fcap, fs, h2⟩, h3⟩ := h
  exact crash38 tag db FA fcap fs d KA0 kcap0 ks w h2 hn hd hk hkl hkc
end

/-- One file of an answer: its name, its bytes. -/
theorem FilesOut.at_ {w : World} {OA : Option Addr} {cap : Nat} {xs : List (List UInt8 × List UInt8)} {ZA ZD : Nat → Prop} (h : FilesOut w OA cap xs ZA ZD) {i : Nat} {x : List UInt8 × List UInt8} (hx : xs[i]? = some x) :
    ∃ cells DA, Sl w OA cells ∧ OA ≠ none ∧ (∀ a, OA = some a → a.spot = none) ∧ cells[i * 2]? = some (.string (bstr x.1)) ∧ cells[i * 2 + 1]? = some (.slice DA x.2.length x.2.length) ∧ Own w DA 5 1 x.2.length x.2.length (bvs x.2) ZD := by
  obtain ⟨cells, g1, g2⟩ := h
  obtain ⟨DA, g3, g4⟩ := g2 i x hx
  have e0 : ((cells.drop (i * 2)).take 2)[0]? = some (.string (bstr x.1)) := by rw [g3]; rfl
  have e1 : ((cells.drop (i * 2)).take 2)[1]? = some (.slice DA x.2.length x.2.length) := by rw [g3]; rfl
  rw [List.getElem?_take, if_pos (by omega), List.getElem?_drop] at e0 e1
  have hl := (List.getElem?_eq_some_iff.1 e0).1
  exact ⟨cells, DA, g1.sl, sl_ne g1.sl hl, spot_own g1, by simpa using e0, e1, g4⟩

theorem fixed31 (w : World) : Ret Try.prog 31 #[] w fun v w' => v = .bool true ∧ Grow w w' := by
  refine Ret.enter (fn := Try.f31) (N := 54) Try.func31 rfl Try.ntmps31 rfl ?_
  repeat (first | refine WL.nil ?_ | refine WL.auto (h := ?_) | refine WL.gskip rfl rfl rfl rfl ?_ | refine WL.gauto (h := ?_) | (refine CW.seq ?_; intro K hK) | refine CW.block ?_ | refine CW.region ?_ | refine CW.skip ?_ | refine CW.exit ?_ | refine CW.ret ?_ | (refine thn_ret (K := K) ?_; clear hK K) | refine thn_ret ?_ | refine blk_ret ?_ | (refine thn_exit (K := K) ?_; clear hK K) | refine thn_exit ?_ | refine blk_here ?_ | refine blk_past rfl ?_ | refine thn_norm ?_ | refine blk_norm ?_ | refine CW.condT rfl ?_ | refine CW.condF rfl ?_ | (refine hK _ _ ?_; clear hK K))
  first | refine WL.step rfl ?_ | refine WL.gstep rfl rfl rfl rfl ?_
  refine OpW.call ((newHD w).mono ?_) rfl
  rintro v w1 ⟨db, rfl, h1⟩
  repeat (first | refine WL.nil ?_ | refine WL.auto (h := ?_) | refine WL.gskip rfl rfl rfl rfl ?_ | refine WL.gauto (h := ?_) | (refine CW.seq ?_; intro K hK) | refine CW.block ?_ | refine CW.region ?_ | refine CW.skip ?_ | refine CW.exit ?_ | refine CW.ret ?_ | (refine thn_ret (K := K) ?_; clear hK K) | refine thn_ret ?_ | refine blk_ret ?_ | (refine thn_exit (K := K) ?_; clear hK K) | refine thn_exit ?_ | refine blk_here ?_ | refine blk_past rfl ?_ | refine thn_norm ?_ | refine blk_norm ?_ | refine CW.condT rfl ?_ | refine CW.condF rfl ?_ | (refine hK _ _ ?_; clear hK K))
  first | refine WL.step rfl ?_ | refine WL.gstep rfl rfl rfl rfl ?_
  refine OpW.buildLit [bv 1, bv 2] rfl rfl rfl (lit1 _ rfl) ?_
  intro b2 w2 n2
  repeat (first | refine WL.nil ?_ | refine WL.auto (h := ?_) | refine WL.gskip rfl rfl rfl rfl ?_ | refine WL.gauto (h := ?_) | (refine CW.seq ?_; intro K hK) | refine CW.block ?_ | refine CW.region ?_ | refine CW.skip ?_ | refine CW.exit ?_ | refine CW.ret ?_ | (refine thn_ret (K := K) ?_; clear hK K) | refine thn_ret ?_ | refine blk_ret ?_ | (refine thn_exit (K := K) ?_; clear hK K) | refine thn_exit ?_ | refine blk_here ?_ | refine blk_past rfl ?_ | refine thn_norm ?_ | refine blk_norm ?_ | refine CW.condT rfl ?_ | refine CW.condF rfl ?_ | (refine hK _ _ ?_; clear hK K))
  first | refine WL.step rfl ?_ | refine WL.gstep rfl rfl rfl rfl ?_
  refine OpW.call ((appendHD h1 n2.grow [97] [1, 2] _ _ (by decide) (by decide) (by decide) (blk_sl_lit n2) (fun _ a ha => by cases ha; exact Or.inr n2.fresh) (by decide) (by simp)).mono ?_) rfl
  rintro v w3 ⟨rfl, h3⟩
  rw [show (PD.append ⟨[], false, 0⟩ [97] [1, 2]) = (0, ⟨[⟨[97], [1, 2], 0⟩], false, 0⟩) from rfl] at h3 ⊢
  repeat (first | refine WL.nil ?_ | refine WL.auto (h := ?_) | refine WL.gskip rfl rfl rfl rfl ?_ | refine WL.gauto (h := ?_) | (refine CW.seq ?_; intro K hK) | refine CW.block ?_ | refine CW.region ?_ | refine CW.skip ?_ | refine CW.exit ?_ | refine CW.ret ?_ | (refine thn_ret (K := K) ?_; clear hK K) | refine thn_ret ?_ | refine blk_ret ?_ | (refine thn_exit (K := K) ?_; clear hK K) | refine thn_exit ?_ | refine blk_here ?_ | refine blk_past rfl ?_ | refine thn_norm ?_ | refine blk_norm ?_ | refine CW.condT rfl ?_ | refine CW.condF rfl ?_ | (refine hK _ _ ?_; clear hK K))
  first | refine WL.step rfl ?_ | refine WL.gstep rfl rfl rfl rfl ?_
  refine OpW.call ((syncHD h3 [97] (by decide) (by decide)).mono ?_) rfl
  rintro v w4 ⟨rfl, h4⟩
  rw [show (PD.sync ⟨[⟨[97], [1, 2], 0⟩], false, 0⟩ [97]) = (0, ⟨[⟨[97], [1, 2], 2⟩], false, 0⟩) from rfl] at h4 ⊢
  repeat (first | refine WL.nil ?_ | refine WL.auto (h := ?_) | refine WL.gskip rfl rfl rfl rfl ?_ | refine WL.gauto (h := ?_) | (refine CW.seq ?_; intro K hK) | refine CW.block ?_ | refine CW.region ?_ | refine CW.skip ?_ | refine CW.exit ?_ | refine CW.ret ?_ | (refine thn_ret (K := K) ?_; clear hK K) | refine thn_ret ?_ | refine blk_ret ?_ | (refine thn_exit (K := K) ?_; clear hK K) | refine thn_exit ?_ | refine blk_here ?_ | refine blk_past rfl ?_ | refine thn_norm ?_ | refine blk_norm ?_ | refine CW.condT rfl ?_ | refine CW.condF rfl ?_ | (refine hK _ _ ?_; clear hK K))
  first | refine WL.step rfl ?_ | refine WL.gstep rfl rfl rfl rfl ?_
  refine OpW.buildLit [bv 3, bv 4, bv 5] rfl rfl rfl (lit1 _ rfl) ?_
  intro b5 w5 n5
  repeat (first | refine WL.nil ?_ | refine WL.auto (h := ?_) | refine WL.gskip rfl rfl rfl rfl ?_ | refine WL.gauto (h := ?_) | (refine CW.seq ?_; intro K hK) | refine CW.block ?_ | refine CW.region ?_ | refine CW.skip ?_ | refine CW.exit ?_ | refine CW.ret ?_ | (refine thn_ret (K := K) ?_; clear hK K) | refine thn_ret ?_ | refine blk_ret ?_ | (refine thn_exit (K := K) ?_; clear hK K) | refine thn_exit ?_ | refine blk_here ?_ | refine blk_past rfl ?_ | refine thn_norm ?_ | refine blk_norm ?_ | refine CW.condT rfl ?_ | refine CW.condF rfl ?_ | (refine hK _ _ ?_; clear hK K))
  first | refine WL.step rfl ?_ | refine WL.gstep rfl rfl rfl rfl ?_
  refine OpW.call ((appendHD h4 n5.grow [97] [3, 4, 5] _ _ (by decide) (by decide) (by decide) (blk_sl_lit n5) (fun _ a ha => by cases ha; exact Or.inr n5.fresh) (by decide) (by simp)).mono ?_) rfl
  rintro v w6 ⟨rfl, h6⟩
  rw [show (PD.append ⟨[⟨[97], [1, 2], 2⟩], false, 0⟩ [97] [3, 4, 5]) = (0, ⟨[⟨[97], [1, 2, 3, 4, 5], 2⟩], false, 0⟩) from rfl] at h6 ⊢
  repeat (first | refine WL.nil ?_ | refine WL.auto (h := ?_) | refine WL.gskip rfl rfl rfl rfl ?_ | refine WL.gauto (h := ?_) | (refine CW.seq ?_; intro K hK) | refine CW.block ?_ | refine CW.region ?_ | refine CW.skip ?_ | refine CW.exit ?_ | refine CW.ret ?_ | (refine thn_ret (K := K) ?_; clear hK K) | refine thn_ret ?_ | refine blk_ret ?_ | (refine thn_exit (K := K) ?_; clear hK K) | refine thn_exit ?_ | refine blk_here ?_ | refine blk_past rfl ?_ | refine thn_norm ?_ | refine blk_norm ?_ | refine CW.condT rfl ?_ | refine CW.condF rfl ?_ | (refine hK _ _ ?_; clear hK K))
  first | refine WL.step rfl ?_ | refine WL.gstep rfl rfl rfl rfl ?_
  refine OpW.buildLit [.bool false, .bool true] rfl rfl rfl (lit1 _ rfl) ?_
  intro b7 w7 n7
  have h7 := h6.grow n7.grow
  repeat (first | refine WL.nil ?_ | refine WL.auto (h := ?_) | refine WL.gskip rfl rfl rfl rfl ?_ | refine WL.gauto (h := ?_) | (refine CW.seq ?_; intro K hK) | refine CW.block ?_ | refine CW.region ?_ | refine CW.skip ?_ | refine CW.exit ?_ | refine CW.ret ?_ | (refine thn_ret (K := K) ?_; clear hK K) | refine thn_ret ?_ | refine blk_ret ?_ | (refine thn_exit (K := K) ?_; clear hK K) | refine thn_exit ?_ | refine blk_here ?_ | refine blk_past rfl ?_ | refine thn_norm ?_ | refine blk_norm ?_ | refine CW.condT rfl ?_ | refine CW.condF rfl ?_ | (refine hK _ _ ?_; clear hK K))
  first | refine WL.step rfl ?_ | refine WL.gstep rfl rfl rfl rfl ?_
  refine OpW.call ((crashHD h7 _ _ [false, true] (by decide) (by simp) (blk_sl_lit n7) (by decide) (by decide)).mono ?_) rfl
  rintro v w8 ⟨g8, OA, cap, col, rfl, o8⟩
  rw [show (crashAll [⟨[97], [1, 2, 3, 4, 5], 2⟩] [false, true]).1 = [([97], [1, 2, 0, 4])] from rfl] at o8 ⊢
  have h8 := h7.grow g8
  repeat (first | refine WL.nil ?_ | refine WL.auto (h := ?_) | refine WL.gskip rfl rfl rfl rfl ?_ | refine WL.gauto (h := ?_) | (refine CW.seq ?_; intro K hK) | refine CW.block ?_ | refine CW.region ?_ | refine CW.skip ?_ | refine CW.exit ?_ | refine CW.ret ?_ | (refine thn_ret (K := K) ?_; clear hK K) | refine thn_ret ?_ | refine blk_ret ?_ | (refine thn_exit (K := K) ?_; clear hK K) | refine thn_exit ?_ | refine blk_here ?_ | refine blk_past rfl ?_ | refine thn_norm ?_ | refine blk_norm ?_ | refine CW.condT rfl ?_ | refine CW.condF rfl ?_ | (refine hK _ _ ?_; clear hK K))
  first | refine WL.step rfl ?_ | refine WL.gstep rfl rfl rfl rfl ?_
  refine OpW.call ((waitingHD h8 (by decide) (by simp)).mono ?_) rfl
  rintro v w9 ⟨g9, rfl⟩
  rw [show waitOf [⟨[97], [1, 2, 3, 4, 5], 2⟩] = 3 from rfl]
  obtain ⟨cells, DA, q1, q2, q3, q4, q5, q6⟩ := o8.at_ (i := 0) (x := ([97], [1, 2, 0, 4])) rfl
  replace q1 := q1.grow g9
  replace q6 := q6.grow g9
  have h9 := h8.grow g9
  repeat (first | refine WL.nil ?_ | refine WL.auto (h := ?_) | refine WL.gskip rfl rfl rfl rfl ?_ | refine WL.gauto (h := ?_) | (refine CW.seq ?_; intro K hK) | refine CW.block ?_ | refine CW.region ?_ | refine CW.skip ?_ | refine CW.exit ?_ | refine CW.ret ?_ | (refine thn_ret (K := K) ?_; clear hK K) | refine thn_ret ?_ | refine blk_ret ?_ | (refine thn_exit (K := K) ?_; clear hK K) | refine thn_exit ?_ | refine blk_here ?_ | refine blk_past rfl ?_ | refine thn_norm ?_ | refine blk_norm ?_ | refine CW.condT rfl ?_ | refine CW.condF rfl ?_ | (refine hK _ _ ?_; clear hK K))
  first | refine WL.step rfl ?_ | refine WL.gstep rfl rfl rfl rfl ?_
  refine OpW.indexAddr 0 rfl rfl rfl (by decide) q2 q3 ?_
  repeat (first | refine WL.nil ?_ | refine WL.auto (h := ?_) | refine WL.gskip rfl rfl rfl rfl ?_ | refine WL.gauto (h := ?_) | (refine CW.seq ?_; intro K hK) | refine CW.block ?_ | refine CW.region ?_ | refine CW.skip ?_ | refine CW.exit ?_ | refine CW.ret ?_ | (refine thn_ret (K := K) ?_; clear hK K) | refine thn_ret ?_ | refine blk_ret ?_ | (refine thn_exit (K := K) ?_; clear hK K) | refine thn_exit ?_ | refine blk_here ?_ | refine blk_past rfl ?_ | refine thn_norm ?_ | refine blk_norm ?_ | refine CW.condT rfl ?_ | refine CW.condF rfl ?_ | (refine hK _ _ ?_; clear hK K))
  first | refine WL.step rfl ?_ | refine WL.gstep rfl rfl rfl rfl ?_
  refine OpW.indexAddr 0 rfl rfl rfl (by decide) q2 q3 ?_
  repeat (first | refine WL.nil ?_ | refine WL.auto (h := ?_) | refine WL.gskip rfl rfl rfl rfl ?_ | refine WL.gauto (h := ?_) | (refine CW.seq ?_; intro K hK) | refine CW.block ?_ | refine CW.region ?_ | refine CW.skip ?_ | refine CW.exit ?_ | refine CW.ret ?_ | (refine thn_ret (K := K) ?_; clear hK K) | refine thn_ret ?_ | refine blk_ret ?_ | (refine thn_exit (K := K) ?_; clear hK K) | refine thn_exit ?_ | refine blk_here ?_ | refine blk_past rfl ?_ | refine thn_norm ?_ | refine blk_norm ?_ | refine CW.condT rfl ?_ | refine CW.condF rfl ?_ | (refine hK _ _ ?_; clear hK K))
  first | refine WL.step rfl ?_ | refine WL.gstep rfl rfl rfl rfl ?_
  refine OpW.toStr rfl q6.sl rfl ?_
  repeat (first | refine WL.nil ?_ | refine WL.auto (h := ?_) | refine WL.gskip rfl rfl rfl rfl ?_ | refine WL.gauto (h := ?_) | (refine CW.seq ?_; intro K hK) | refine CW.block ?_ | refine CW.region ?_ | refine CW.skip ?_ | refine CW.exit ?_ | refine CW.ret ?_ | (refine thn_ret (K := K) ?_; clear hK K) | refine thn_ret ?_ | refine blk_ret ?_ | (refine thn_exit (K := K) ?_; clear hK K) | refine thn_exit ?_ | refine blk_here ?_ | refine blk_past rfl ?_ | refine thn_norm ?_ | refine blk_norm ?_ | refine CW.condT rfl ?_ | refine CW.condF rfl ?_ | (refine hK _ _ ?_; clear hK K))
  first | refine WL.step rfl ?_ | refine WL.gstep rfl rfl rfl rfl ?_
  refine OpW.call ((syncHD h9 [98] (by decide) (by decide)).mono ?_) rfl
  rintro v w10 ⟨rfl, h10⟩
  rw [show (PD.sync ⟨[⟨[97], [1, 2, 3, 4, 5], 2⟩], false, 0⟩ [98]) = (50, ⟨[⟨[97], [1, 2, 3, 4, 5], 2⟩], false, 0⟩) from rfl] at h10 ⊢
  repeat (first | refine WL.nil ?_ | refine WL.auto (h := ?_) | refine WL.gskip rfl rfl rfl rfl ?_ | refine WL.gauto (h := ?_) | (refine CW.seq ?_; intro K hK) | refine CW.block ?_ | refine CW.region ?_ | refine CW.skip ?_ | refine CW.exit ?_ | refine CW.ret ?_ | (refine thn_ret (K := K) ?_; clear hK K) | refine thn_ret ?_ | refine blk_ret ?_ | (refine thn_exit (K := K) ?_; clear hK K) | refine thn_exit ?_ | refine blk_here ?_ | refine blk_past rfl ?_ | refine thn_norm ?_ | refine blk_norm ?_ | refine CW.condT rfl ?_ | refine CW.condF rfl ?_ | (refine hK _ _ ?_; clear hK K))
  exact out1 (v := .bool true) Try.results31 rfl ⟨rfl, h10.g⟩ (Or.inr rfl)
end B
end Go.Proofs.Ytlofcomnhecgfaa
