/- Crash of the document's disk. Sizes are bounded. -/
import Derived.Test.YtlofcomnhecgfaaDiskN
namespace Go.Proofs.Ytlofcomnhecgfaa
namespace B
attribute [local irreducible] OpW WL CW Ret Sl Blk thn blk outOf
set_option linter.unusedVariables false
set_option linter.unusedSimpArgs false
set_option maxRecDepth 4000

theorem crashStep_ix (b : List UInt8) (l : Nat) (ks : List Bool) (K : Nat) (c : UInt8) : crashStep (b, l, ks.drop K) c = if ks[K]? = some true then (b ++ [c], b.length + 1, ks.drop (K + 1)) else (b ++ [0], l, ks.drop (K + 1)) := by
  rcases Nat.lt_or_ge K ks.length with h | h
  · rw [List.getElem?_eq_getElem h, List.drop_eq_getElem_cons h]
    unfold crashStep
    cases ks[K] <;> simp
  · rw [List.getElem?_eq_none h, List.drop_of_length_le h, List.drop_of_length_le (by omega)]
    simp [crashStep]
/-- Files that were handed out, with room behind their bytes. -/
def FilesOutR (w : World) (OA : Option Addr) (cap : Nat) (xs : List (List UInt8 × List UInt8)) (ZA ZD : Nat → Prop) : Prop :=
  ∃ cells : List Value, Own w OA 52 2 xs.length cap cells ZA ∧ ∀ i x, xs[i]? = some x → ∃ DA c, (cells.drop (i * 2)).take 2 = [.string (bstr x.1), .slice DA x.2.length c] ∧ Own w DA 5 1 x.2.length c (bvs x.2) ZD
theorem FilesOutR.in_ {w : World} {OA : Option Addr} {cap : Nat} {xs : List (List UInt8 × List UInt8)} {ZA ZD : Nat → Prop} (h : FilesOutR w OA cap xs ZA ZD) : FilesIn w OA xs (fun b => ZA b ∨ ZD b) := by
  obtain ⟨cells, g1, g2⟩ := h
  refine ⟨cells, g1.sl, fun _ a ha => Or.inl (g1.in_ ha).1, g1.1, fun i x hx => ?_⟩
  obtain ⟨DA, c, g3, g4⟩ := g2 i x hx
  exact ⟨DA, c, g3, g4.sl, fun _ a ha => Or.inr (g4.in_ ha).1, g4.le⟩
theorem rcrash39 (tag : Nat → Tag) (mb : Nat) (RA : Option Addr) (rcap : Nat) (rc : List Value) (d : PD) (KA : Option Addr) (kcap : Nat) (ks : List Bool) (w : World) (h : RefAt tag w mb RA rcap rc d) (hn : d.files.length ≤ 16) (hd : ∀ f ∈ d.files, f.data.length ≤ 1099511627776 ∧ f.safe ≤ f.data.length)
    (hk : Sl w KA (ks.map .bool)) (hkl : ks.length ≤ 1099511627776) :
    Ret Try.prog 39 #[.pointer (some ⟨mb, 0, none⟩), .slice KA ks.length kcap] w fun v w' => Grow w w' ∧ ∃ (OA : Option Addr) (cap : Nat), v = .slice OA (crashAll d.files ks).1.length cap ∧ FilesIn w' OA (crashAll d.files ks).1 (fresh w) := by
  have hb := h.blk
  refine Ret.enter (fn := Try.f39) (N := 75) Try.func39 rfl Try.ntmps39 rfl ?_
  repeat (first | refine WL.nil ?_ | refine WL.auto (h := ?_) | refine WL.gskip rfl rfl rfl rfl ?_ | refine WL.gauto (h := ?_) | (refine CW.seq ?_; intro K hK) | refine CW.block ?_ | refine CW.region ?_ | refine CW.skip ?_ | refine CW.exit ?_ | refine CW.ret ?_ | (refine thn_ret (K := K) ?_; clear hK K) | refine thn_ret ?_ | refine blk_ret ?_ | (refine thn_exit (K := K) ?_; clear hK K) | refine thn_exit ?_ | refine blk_here ?_ | refine blk_past rfl ?_ | refine thn_norm ?_ | refine blk_norm ?_ | refine CW.condT rfl ?_ | refine CW.condF rfl ?_ | (refine hK _ _ ?_; clear hK K))
  refine CW.loop (fun n' e w3 => ∃ (k : Nat) (OA : Option Addr) (ocap : Nat) (kn : Nat) (col : Nat → Bool), k ≤ d.files.length ∧ n' = d.files.length - k ∧ Grow w w3 ∧ FilesOutR w3 OA ocap (crashAll (d.files.take k) ks).1 (fun b => w.heap.size ≤ b ∧ col b = true) (fun b => w.heap.size ≤ b ∧ col b = false) ∧
    (crashAll (d.files.take k) ks).2 = ks.drop kn ∧ kn ≤ k * 1099511627776 ∧
    ∃ e0, e = upd (upd (upd (upd (upd (upd e0 1 (.slice KA ks.length kcap)) 5 (.slice OA (crashAll (d.files.take k) ks).1.length ocap)) 6 (.int .i64 kn)) 15 (.slice RA d.files.length rcap)) 16 (.int .i64 d.files.length)) 17 (.int .i64 k)) d.files.length ?_ ?_
  · exact ⟨0, none, 0, 0, fun _ => true, by omega, rfl, Chg.refl _ _, ⟨[], Own.nil _ _ _ _, fun i x hx => by simp [crashAll] at hx⟩, rfl, by omega, rep6 rfl rfl rfl rfl rfl rfl⟩
  rintro n' e w2 ⟨k, OA, ocap, kn, col, hkn, rfl, g2, ho, hkn0, hkb, e0, rfl⟩ KJ hJ
  have hsn : ∀ hkl : k < d.files.length, crashAll (d.files.take (k + 1)) ks = ((crashAll (d.files.take k) ks).1 ++ [((d.files[k]).name, (crashFile (d.files[k]) (crashAll (d.files.take k) ks).2).1)], (crashFile (d.files[k]) (crashAll (d.files.take k) ks).2).2) := fun hkl => by rw [List.take_succ_eq_append_getElem hkl, crashAll_snoc]
  have hol : (crashAll (d.files.take k) ks).1.length = k := by rw [crashAll_length]; simp; omega
  generalize hr : crashAll (d.files.take k) ks = r at *
  obtain ⟨xs, rs⟩ := r
  simp only at ho hkn0 hsn hol
  subst hkn0
  repeat (first | refine WL.nil ?_ | refine WL.auto (h := ?_) | refine WL.gskip rfl rfl rfl rfl ?_ | refine WL.gauto (h := ?_) | (refine CW.seq ?_; intro K hK) | refine CW.block ?_ | refine CW.region ?_ | refine CW.skip ?_ | refine CW.exit ?_ | refine CW.ret ?_ | (refine thn_ret (K := K) ?_; clear hK K) | refine thn_ret ?_ | refine blk_ret ?_ | (refine thn_exit (K := K) ?_; clear hK K) | refine thn_exit ?_ | refine blk_here ?_ | refine blk_past rfl ?_ | refine thn_norm ?_ | refine blk_norm ?_ | refine CW.condT rfl ?_ | refine CW.condF rfl ?_ | (refine hK _ _ ?_; clear hK K))
  refine CW.condP rfl (fun h2 => ?_) (fun h2 => ?_)
  · have hkf : k < d.files.length := by omega
    have h3 := h.grow g2
    obtain ⟨DA, dcap, q0, q1, q2, q3, q4, q5, q6⟩ := h3.at_ (List.getElem?_eq_getElem hkf)
    have hsl := h3.own.sl
    have hf := hd d.files[k] (List.getElem_mem hkf)
    have hsn1 := hsn hkf
    clear hsn
    generalize d.files[k] = f at *
    obtain ⟨hfl, hfs⟩ := hf
    repeat (first | refine WL.nil ?_ | refine WL.auto (h := ?_) | refine WL.gskip rfl rfl rfl rfl ?_ | refine WL.gauto (h := ?_) | (refine CW.seq ?_; intro K hK) | refine CW.block ?_ | refine CW.region ?_ | refine CW.skip ?_ | refine CW.exit ?_ | refine CW.ret ?_ | (refine thn_ret (K := K) ?_; clear hK K) | refine thn_ret ?_ | refine blk_ret ?_ | (refine thn_exit (K := K) ?_; clear hK K) | refine thn_exit ?_ | refine blk_here ?_ | refine blk_past rfl ?_ | refine thn_norm ?_ | refine blk_norm ?_ | refine CW.condT rfl ?_ | refine CW.condF rfl ?_ | (refine hK _ _ ?_; clear hK K))
    first | refine WL.step rfl ?_ | refine WL.gstep rfl rfl rfl rfl ?_
    refine OpW.indexAddr k rfl rfl rfl hkf q4 q5 ?_
    repeat (first | refine WL.nil ?_ | refine WL.auto (h := ?_) | refine WL.gskip rfl rfl rfl rfl ?_ | refine WL.gauto (h := ?_) | (refine CW.seq ?_; intro K hK) | refine CW.block ?_ | refine CW.region ?_ | refine CW.skip ?_ | refine CW.exit ?_ | refine CW.ret ?_ | (refine thn_ret (K := K) ?_; clear hK K) | refine thn_ret ?_ | refine blk_ret ?_ | (refine thn_exit (K := K) ?_; clear hK K) | refine thn_exit ?_ | refine blk_here ?_ | refine blk_past rfl ?_ | refine thn_norm ?_ | refine blk_norm ?_ | refine CW.condT rfl ?_ | refine CW.condF rfl ?_ | (refine hK _ _ ?_; clear hK K))
    first | refine WL.step rfl ?_ | refine WL.gstep rfl rfl rfl rfl ?_
    refine OpW.loadAggS _ rfl hsl q6 rfl (by decide) ?_
    repeat (first | refine WL.nil ?_ | refine WL.auto (h := ?_) | refine WL.gskip rfl rfl rfl rfl ?_ | refine WL.gauto (h := ?_) | (refine CW.seq ?_; intro K hK) | refine CW.block ?_ | refine CW.region ?_ | refine CW.skip ?_ | refine CW.exit ?_ | refine CW.ret ?_ | (refine thn_ret (K := K) ?_; clear hK K) | refine thn_ret ?_ | refine blk_ret ?_ | (refine thn_exit (K := K) ?_; clear hK K) | refine thn_exit ?_ | refine blk_here ?_ | refine blk_past rfl ?_ | refine thn_norm ?_ | refine blk_norm ?_ | refine CW.condT rfl ?_ | refine CW.condF rfl ?_ | (refine hK _ _ ?_; clear hK K))
    first | refine WL.step rfl ?_ | refine WL.gstep rfl rfl rfl rfl ?_
    refine OpW.alloc (fun b3 w3 n3 => ?_)
    repeat (first | refine WL.nil ?_ | refine WL.auto (h := ?_) | refine WL.gskip rfl rfl rfl rfl ?_ | refine WL.gauto (h := ?_) | (refine CW.seq ?_; intro K hK) | refine CW.block ?_ | refine CW.region ?_ | refine CW.skip ?_ | refine CW.exit ?_ | refine CW.ret ?_ | (refine thn_ret (K := K) ?_; clear hK K) | refine thn_ret ?_ | refine blk_ret ?_ | (refine thn_exit (K := K) ?_; clear hK K) | refine thn_exit ?_ | refine blk_here ?_ | refine blk_past rfl ?_ | refine thn_norm ?_ | refine blk_norm ?_ | refine CW.condT rfl ?_ | refine CW.condF rfl ?_ | (refine hK _ _ ?_; clear hK K))
    refine WL.step0 ?_
    refine OpW.storeAll rfl rfl rfl n3.blk rfl rfl (fun w4 p4 hb4 => ?_)
    have g4 : Grow w2 w4 := n3.grow.chgNew p4.chg (fun i hi h => by subst h; have := n3.fresh; omega)
    have q34 := q3.grow g4
    repeat (first | refine WL.nil ?_ | refine WL.auto (h := ?_) | refine WL.gskip rfl rfl rfl rfl ?_ | refine WL.gauto (h := ?_) | (refine CW.seq ?_; intro K hK) | refine CW.block ?_ | refine CW.region ?_ | refine CW.skip ?_ | refine CW.exit ?_ | refine CW.ret ?_ | (refine thn_ret (K := K) ?_; clear hK K) | refine thn_ret ?_ | refine blk_ret ?_ | (refine thn_exit (K := K) ?_; clear hK K) | refine thn_exit ?_ | refine blk_here ?_ | refine blk_past rfl ?_ | refine thn_norm ?_ | refine blk_norm ?_ | refine CW.condT rfl ?_ | refine CW.condF rfl ?_ | (refine hK _ _ ?_; clear hK K))
    first | refine WL.step rfl ?_ | refine WL.gstep rfl rfl rfl rfl ?_
    refine OpW.buildNone (fun b5 w5 n5 => ?_)
    have hb5 := hb4.grow n5.grow
    have q35 := q34.grow n5.grow
    repeat (first | refine WL.nil ?_ | refine WL.auto (h := ?_) | refine WL.gskip rfl rfl rfl rfl ?_ | refine WL.gauto (h := ?_) | (refine CW.seq ?_; intro K hK) | refine CW.block ?_ | refine CW.region ?_ | refine CW.skip ?_ | refine CW.exit ?_ | refine CW.ret ?_ | (refine thn_ret (K := K) ?_; clear hK K) | refine thn_ret ?_ | refine blk_ret ?_ | (refine thn_exit (K := K) ?_; clear hK K) | refine thn_exit ?_ | refine blk_here ?_ | refine blk_past rfl ?_ | refine thn_norm ?_ | refine blk_norm ?_ | refine CW.condT rfl ?_ | refine CW.condF rfl ?_ | (refine hK _ _ ?_; clear hK K))
    first | refine WL.step rfl ?_ | refine WL.gstep rfl rfl rfl rfl ?_
    refine OpW.sliceHi f.safe rfl rfl rfl (by have := q3.le; omega) ?_
    have hsafe : Sl w5 DA (bvs (f.data.take f.safe)) := by
      have := q35.sl.take f.safe
      rwa [bvs_take] at this
    have hsl1 : (f.data.take f.safe).length = f.safe := by simp; omega
    repeat (first | refine WL.nil ?_ | refine WL.auto (h := ?_) | refine WL.gskip rfl rfl rfl rfl ?_ | refine WL.gauto (h := ?_) | (refine CW.seq ?_; intro K hK) | refine CW.block ?_ | refine CW.region ?_ | refine CW.skip ?_ | refine CW.exit ?_ | refine CW.ret ?_ | (refine thn_ret (K := K) ?_; clear hK K) | refine thn_ret ?_ | refine blk_ret ?_ | (refine thn_exit (K := K) ?_; clear hK K) | refine thn_exit ?_ | refine blk_here ?_ | refine blk_past rfl ?_ | refine thn_norm ?_ | refine blk_norm ?_ | refine CW.condT rfl ?_ | refine CW.condF rfl ?_ | (refine hK _ _ ?_; clear hK K))
    first | refine WL.step rfl ?_ | refine WL.gstep rfl rfl rfl rfl ?_
    refine OpW.appB (w0 := w4) (l := []) (m := f.data.take f.safe) rfl rfl rfl rfl hsl1.symm rfl (Own.empty n5) hsafe n5.grow (by simp; omega) (fun A6 c6 w6 o6 g6 _ => ?_)
    rw [List.nil_append] at o6 ⊢
    rw [hsl1] at o6 ⊢
    have hb6 := hb4.grow g6
    repeat (first | refine WL.nil ?_ | refine WL.auto (h := ?_) | refine WL.gskip rfl rfl rfl rfl ?_ | refine WL.gauto (h := ?_) | (refine CW.seq ?_; intro K hK) | refine CW.block ?_ | refine CW.region ?_ | refine CW.skip ?_ | refine CW.exit ?_ | refine CW.ret ?_ | (refine thn_ret (K := K) ?_; clear hK K) | refine thn_ret ?_ | refine blk_ret ?_ | (refine thn_exit (K := K) ?_; clear hK K) | refine thn_exit ?_ | refine blk_here ?_ | refine blk_past rfl ?_ | refine thn_norm ?_ | refine blk_norm ?_ | refine CW.condT rfl ?_ | refine CW.condF rfl ?_ | (refine hK _ _ ?_; clear hK K))
    refine CW.loop (fun n' e w7 => ∃ (m : Nat) (A7 : Option Addr) (c7 : Nat), f.safe + m ≤ f.data.length ∧ n' = f.data.length - f.safe - m ∧ Own w7 A7 5 1 (f.safe + m) c7 (bvs (crashRun f (ks.drop kn) m).1) (fresh w4) ∧ Grow w4 w7 ∧
      (crashRun f (ks.drop kn) m).2.2 = ks.drop (kn + m) ∧
      ∃ e0, e = upd (upd (upd (upd (upd (upd (upd (upd (upd (upd e0 1 (.slice KA ks.length kcap)) 5 (.slice OA xs.length ocap)) 6 (.int .i64 ((kn + m : Nat) : Int))) 8 (.pointer (some ⟨b3, 0, none⟩))) 9 (.slice A7 (f.safe + m) c7)) 10 (.int .i64 ((crashRun f (ks.drop kn) m).2.1 : Nat))) 11 (.int .i64 ((f.safe + m : Nat) : Int))) 15 (.slice RA d.files.length rcap)) 16 (.int .i64 d.files.length)) 17 (.int .i64 k)) (f.data.length - f.safe) ?_ ?_
    · refine ⟨0, A6, c6, by omega, rfl, ?_, g6, rfl, rep10 rfl rfl rfl rfl rfl rfl rfl rfl rfl rfl⟩
      simpa [crashRun] using o6
    rintro n' e w7 ⟨m, A7, c7, hm, rfl, o7, g7, hdr, e0, rfl⟩ KJ2 hJ2
    have hb7 := hb4.grow g7
    have hk7 : Sl w7 KA (ks.map .bool) := hk.grow (g2.then (g4.then g7))
    repeat (first | refine WL.nil ?_ | refine WL.auto (h := ?_) | refine WL.gskip rfl rfl rfl rfl ?_ | refine WL.gauto (h := ?_) | (refine CW.seq ?_; intro K hK) | refine CW.block ?_ | refine CW.region ?_ | refine CW.skip ?_ | refine CW.exit ?_ | refine CW.ret ?_ | (refine thn_ret (K := K) ?_; clear hK K) | refine thn_ret ?_ | refine blk_ret ?_ | (refine thn_exit (K := K) ?_; clear hK K) | refine thn_exit ?_ | refine blk_here ?_ | refine blk_past rfl ?_ | refine thn_norm ?_ | refine blk_norm ?_ | refine CW.condT rfl ?_ | refine CW.condF rfl ?_ | (refine hK _ _ ?_; clear hK K))
    refine CW.condP rfl (fun h6 => ?_) (fun h6 => ?_)
    · have hmc : f.safe + m < f.data.length := by omega
      have hst := crashRun_step (ks := ks.drop kn) hmc
      have hln := (crashRun_len (ks := ks.drop kn) hm).1
      obtain ⟨c0, hc0⟩ : ∃ c0, f.data[f.safe + m] = c0 := ⟨_, rfl⟩
      have hcell : (bvs f.data)[f.safe + m]? = some (bv c0) := by rw [bvs_get, List.getElem?_eq_getElem hmc, hc0]; rfl
      rw [hc0] at hst
      generalize hs0 : crashRun f (ks.drop kn) m = st at *
      obtain ⟨sb, sl, sk⟩ := st
      simp only at o7 hdr hln
      subst hdr
      rw [crashStep_ix] at hst
      have o7' : Own w7 A7 5 1 sb.length c7 (bvs sb) (fresh w4) := by rw [hln]; exact o7
      have next : ∀ (A9 : Option Addr) (c9 : Nat) (w9 : World) (bb : List UInt8) (ll : Nat) (E : Env), crashRun f (ks.drop kn) (m + 1) = (bb, ll, ks.drop (kn + m + 1)) → Own w9 A9 5 1 bb.length c9 (bvs bb) (fresh w4) → Grow w4 w9 → bb.length = f.safe + (m + 1) →
          (∃ e0, E = upd (upd (upd (upd (upd (upd (upd (upd (upd (upd e0 1 (.slice KA ks.length kcap)) 5 (.slice OA xs.length ocap)) 6 (.int .i64 ((kn + (m + 1) : Nat) : Int))) 8 (.pointer (some ⟨b3, 0, none⟩))) 9 (.slice A9 bb.length c9)) 10 (.int .i64 (ll : Nat))) 11 (.int .i64 ((f.safe + (m + 1) : Nat) : Int))) 15 (.slice RA d.files.length rcap)) 16 (.int .i64 d.files.length)) 17 (.int .i64 k)) → KJ2 E w9 := by
        intro A9 c9 w9 bb ll E h1 h2 h3 h4 he
        rw [h4] at h2 he
        refine hJ2 (f.data.length - f.safe - (m + 1)) E w9 (by omega) ⟨m + 1, A9, c9, by omega, rfl, by rw [h1]; exact h2, h3, by rw [h1]; rfl, by rw [h1]; exact he⟩
      by_cases c1 : kn + m < ks.length
      · have hkk : (ks.map Value.bool)[kn + m]? = some (.bool ks[kn + m]) := by simp [c1]
        have hkl2 : kn + m < (ks.map Value.bool).length := by simpa using c1
        rw [List.getElem?_eq_getElem c1] at hst
        generalize ks[kn + m] = y at *
        repeat (first | refine WL.nil ?_ | refine WL.auto (h := ?_) | refine WL.gskip rfl rfl rfl rfl ?_ | refine WL.gauto (h := ?_) | (refine CW.seq ?_; intro K hK) | refine CW.block ?_ | refine CW.region ?_ | refine CW.skip ?_ | refine CW.exit ?_ | refine CW.ret ?_ | (refine thn_ret (K := K) ?_; clear hK K) | refine thn_ret ?_ | refine blk_ret ?_ | (refine thn_exit (K := K) ?_; clear hK K) | refine thn_exit ?_ | refine blk_here ?_ | refine blk_past rfl ?_ | refine thn_norm ?_ | refine blk_norm ?_ | refine CW.condT rfl ?_ | refine CW.condF rfl ?_ | (refine hK _ _ ?_; clear hK K))
        rw [decide_eq_true (p := ((kn + m : Nat) : Int) < (ks.length : Int)) (by omega)]
        repeat (first | refine WL.nil ?_ | refine WL.auto (h := ?_) | refine WL.gskip rfl rfl rfl rfl ?_ | refine WL.gauto (h := ?_) | (refine CW.seq ?_; intro K hK) | refine CW.block ?_ | refine CW.region ?_ | refine CW.skip ?_ | refine CW.exit ?_ | refine CW.ret ?_ | (refine thn_ret (K := K) ?_; clear hK K) | refine thn_ret ?_ | refine blk_ret ?_ | (refine thn_exit (K := K) ?_; clear hK K) | refine thn_exit ?_ | refine blk_here ?_ | refine blk_past rfl ?_ | refine thn_norm ?_ | refine blk_norm ?_ | refine CW.condT rfl ?_ | refine CW.condF rfl ?_ | (refine hK _ _ ?_; clear hK K))
        first | refine WL.step rfl ?_ | refine WL.gstep rfl rfl rfl rfl ?_
        refine OpW.indexAddr (kn + m) rfl rfl rfl c1 (sl_ne hk7 hkl2) (sl_sp hk7 hkl2) ?_
        repeat (first | refine WL.nil ?_ | refine WL.auto (h := ?_) | refine WL.gskip rfl rfl rfl rfl ?_ | refine WL.gauto (h := ?_) | (refine CW.seq ?_; intro K hK) | refine CW.block ?_ | refine CW.region ?_ | refine CW.skip ?_ | refine CW.exit ?_ | refine CW.ret ?_ | (refine thn_ret (K := K) ?_; clear hK K) | refine thn_ret ?_ | refine blk_ret ?_ | (refine thn_exit (K := K) ?_; clear hK K) | refine thn_exit ?_ | refine blk_here ?_ | refine blk_past rfl ?_ | refine thn_norm ?_ | refine blk_norm ?_ | refine CW.condT rfl ?_ | refine CW.condF rfl ?_ | (refine hK _ _ ?_; clear hK K))
        first | refine WL.step rfl ?_ | refine WL.gstep rfl rfl rfl rfl ?_
        refine OpW.loadS (v := .bool y) rfl hk7 (by simpa using hkk) ?_
        cases y with
        | true =>
          rw [if_pos rfl] at hst
          have q37 := (q34.grow g7).sl
          repeat (first | refine WL.nil ?_ | refine WL.auto (h := ?_) | refine WL.gskip rfl rfl rfl rfl ?_ | refine WL.gauto (h := ?_) | (refine CW.seq ?_; intro K hK) | refine CW.block ?_ | refine CW.region ?_ | refine CW.skip ?_ | refine CW.exit ?_ | refine CW.ret ?_ | (refine thn_ret (K := K) ?_; clear hK K) | refine thn_ret ?_ | refine blk_ret ?_ | (refine thn_exit (K := K) ?_; clear hK K) | refine thn_exit ?_ | refine blk_here ?_ | refine blk_past rfl ?_ | refine thn_norm ?_ | refine blk_norm ?_ | refine CW.condT rfl ?_ | refine CW.condF rfl ?_ | (refine hK _ _ ?_; clear hK K))
          first | refine WL.step rfl ?_ | refine WL.gstep rfl rfl rfl rfl ?_
          refine OpW.indexAddr (f.safe + m) rfl rfl rfl hmc (sl_ne q37 (List.getElem?_eq_some_iff.1 hcell).1) (sl_sp q37 (List.getElem?_eq_some_iff.1 hcell).1) ?_
          repeat (first | refine WL.nil ?_ | refine WL.auto (h := ?_) | refine WL.gskip rfl rfl rfl rfl ?_ | refine WL.gauto (h := ?_) | (refine CW.seq ?_; intro K hK) | refine CW.block ?_ | refine CW.region ?_ | refine CW.skip ?_ | refine CW.exit ?_ | refine CW.ret ?_ | (refine thn_ret (K := K) ?_; clear hK K) | refine thn_ret ?_ | refine blk_ret ?_ | (refine thn_exit (K := K) ?_; clear hK K) | refine thn_exit ?_ | refine blk_here ?_ | refine blk_past rfl ?_ | refine thn_norm ?_ | refine blk_norm ?_ | refine CW.condT rfl ?_ | refine CW.condF rfl ?_ | (refine hK _ _ ?_; clear hK K))
          first | refine WL.step rfl ?_ | refine WL.gstep rfl rfl rfl rfl ?_
          refine OpW.loadS (v := bv c0) rfl q37 (by simpa using hcell) ?_
          repeat (first | refine WL.nil ?_ | refine WL.auto (h := ?_) | refine WL.gskip rfl rfl rfl rfl ?_ | refine WL.gauto (h := ?_) | (refine CW.seq ?_; intro K hK) | refine CW.block ?_ | refine CW.region ?_ | refine CW.skip ?_ | refine CW.exit ?_ | refine CW.ret ?_ | (refine thn_ret (K := K) ?_; clear hK K) | refine thn_ret ?_ | refine blk_ret ?_ | (refine thn_exit (K := K) ?_; clear hK K) | refine thn_exit ?_ | refine blk_here ?_ | refine blk_past rfl ?_ | refine thn_norm ?_ | refine blk_norm ?_ | refine CW.condT rfl ?_ | refine CW.condF rfl ?_ | (refine hK _ _ ?_; clear hK K))
          first | refine WL.step rfl ?_ | refine WL.gstep rfl rfl rfl rfl ?_
          refine OpW.buildLit [bv c0] rfl rfl rfl (lit1 _ rfl) ?_
          intro b8 w8 n8
          repeat (first | refine WL.nil ?_ | refine WL.auto (h := ?_) | refine WL.gskip rfl rfl rfl rfl ?_ | refine WL.gauto (h := ?_) | (refine CW.seq ?_; intro K hK) | refine CW.block ?_ | refine CW.region ?_ | refine CW.skip ?_ | refine CW.exit ?_ | refine CW.ret ?_ | (refine thn_ret (K := K) ?_; clear hK K) | refine thn_ret ?_ | refine blk_ret ?_ | (refine thn_exit (K := K) ?_; clear hK K) | refine thn_exit ?_ | refine blk_here ?_ | refine blk_past rfl ?_ | refine thn_norm ?_ | refine blk_norm ?_ | refine CW.condT rfl ?_ | refine CW.condF rfl ?_ | (refine hK _ _ ?_; clear hK K))
          first | refine WL.step rfl ?_ | refine WL.gstep rfl rfl rfl rfl ?_
          refine OpW.appB (w0 := w4) (l := sb) (m := [c0]) rfl rfl rfl hln.symm rfl rfl (o7'.grow n8.grow) (blk_sl_lit (vs := [bv c0]) n8) (g7.then n8.grow) (by simp; omega) (fun A9 c9 w9 o9 g9 _ => ?_)
          repeat (first | refine WL.nil ?_ | refine WL.auto (h := ?_) | refine WL.gskip rfl rfl rfl rfl ?_ | refine WL.gauto (h := ?_) | (refine CW.seq ?_; intro K hK) | refine CW.block ?_ | refine CW.region ?_ | refine CW.skip ?_ | refine CW.exit ?_ | refine CW.ret ?_ | (refine thn_ret (K := K) ?_; clear hK K) | refine thn_ret ?_ | refine blk_ret ?_ | (refine thn_exit (K := K) ?_; clear hK K) | refine thn_exit ?_ | refine blk_here ?_ | refine blk_past rfl ?_ | refine thn_norm ?_ | refine blk_norm ?_ | refine CW.condT rfl ?_ | refine CW.condF rfl ?_ | (refine hK _ _ ?_; clear hK K))
          exact next A9 c9 w9 (sb ++ [c0]) (sb.length + 1) _ hst o9 g9 (by simp; omega) (rep10 rfl rfl (congrArg (Value.int .i64) (by omega)) rfl rfl (congrArg (Value.int .i64) (by simp)) (congrArg (Value.int .i64) (by omega)) rfl rfl rfl)
        | false =>
          rw [if_neg (by simp)] at hst
          repeat (first | refine WL.nil ?_ | refine WL.auto (h := ?_) | refine WL.gskip rfl rfl rfl rfl ?_ | refine WL.gauto (h := ?_) | (refine CW.seq ?_; intro K hK) | refine CW.block ?_ | refine CW.region ?_ | refine CW.skip ?_ | refine CW.exit ?_ | refine CW.ret ?_ | (refine thn_ret (K := K) ?_; clear hK K) | refine thn_ret ?_ | refine blk_ret ?_ | (refine thn_exit (K := K) ?_; clear hK K) | refine thn_exit ?_ | refine blk_here ?_ | refine blk_past rfl ?_ | refine thn_norm ?_ | refine blk_norm ?_ | refine CW.condT rfl ?_ | refine CW.condF rfl ?_ | (refine hK _ _ ?_; clear hK K))
          first | refine WL.step rfl ?_ | refine WL.gstep rfl rfl rfl rfl ?_
          refine OpW.buildLit [bv 0] rfl rfl rfl (lit1 _ rfl) ?_
          intro b8 w8 n8
          repeat (first | refine WL.nil ?_ | refine WL.auto (h := ?_) | refine WL.gskip rfl rfl rfl rfl ?_ | refine WL.gauto (h := ?_) | (refine CW.seq ?_; intro K hK) | refine CW.block ?_ | refine CW.region ?_ | refine CW.skip ?_ | refine CW.exit ?_ | refine CW.ret ?_ | (refine thn_ret (K := K) ?_; clear hK K) | refine thn_ret ?_ | refine blk_ret ?_ | (refine thn_exit (K := K) ?_; clear hK K) | refine thn_exit ?_ | refine blk_here ?_ | refine blk_past rfl ?_ | refine thn_norm ?_ | refine blk_norm ?_ | refine CW.condT rfl ?_ | refine CW.condF rfl ?_ | (refine hK _ _ ?_; clear hK K))
          first | refine WL.step rfl ?_ | refine WL.gstep rfl rfl rfl rfl ?_
          refine OpW.appB (w0 := w4) (l := sb) (m := [0]) rfl rfl rfl hln.symm rfl rfl (o7'.grow n8.grow) (blk_sl_lit (vs := [bv 0]) n8) (g7.then n8.grow) (by simp; omega) (fun A9 c9 w9 o9 g9 _ => ?_)
          repeat (first | refine WL.nil ?_ | refine WL.auto (h := ?_) | refine WL.gskip rfl rfl rfl rfl ?_ | refine WL.gauto (h := ?_) | (refine CW.seq ?_; intro K hK) | refine CW.block ?_ | refine CW.region ?_ | refine CW.skip ?_ | refine CW.exit ?_ | refine CW.ret ?_ | (refine thn_ret (K := K) ?_; clear hK K) | refine thn_ret ?_ | refine blk_ret ?_ | (refine thn_exit (K := K) ?_; clear hK K) | refine thn_exit ?_ | refine blk_here ?_ | refine blk_past rfl ?_ | refine thn_norm ?_ | refine blk_norm ?_ | refine CW.condT rfl ?_ | refine CW.condF rfl ?_ | (refine hK _ _ ?_; clear hK K))
          exact next A9 c9 w9 (sb ++ [0]) sl _ hst o9 g9 (by simp; omega) (rep10 rfl rfl (congrArg (Value.int .i64) (by omega)) rfl rfl rfl (congrArg (Value.int .i64) (by omega)) rfl rfl rfl)
      · rw [List.getElem?_eq_none (by omega), if_neg (by simp)] at hst
        repeat (first | refine WL.nil ?_ | refine WL.auto (h := ?_) | refine WL.gskip rfl rfl rfl rfl ?_ | refine WL.gauto (h := ?_) | (refine CW.seq ?_; intro K hK) | refine CW.block ?_ | refine CW.region ?_ | refine CW.skip ?_ | refine CW.exit ?_ | refine CW.ret ?_ | (refine thn_ret (K := K) ?_; clear hK K) | refine thn_ret ?_ | refine blk_ret ?_ | (refine thn_exit (K := K) ?_; clear hK K) | refine thn_exit ?_ | refine blk_here ?_ | refine blk_past rfl ?_ | refine thn_norm ?_ | refine blk_norm ?_ | refine CW.condT rfl ?_ | refine CW.condF rfl ?_ | (refine hK _ _ ?_; clear hK K))
        rw [decide_eq_false (p := ((kn + m : Nat) : Int) < (ks.length : Int)) (by omega)]
        repeat (first | refine WL.nil ?_ | refine WL.auto (h := ?_) | refine WL.gskip rfl rfl rfl rfl ?_ | refine WL.gskipU rfl rfl rfl rfl ?_ | refine WL.gauto (h := ?_) | (refine CW.seq ?_; intro K hK) | refine CW.block ?_ | refine CW.region ?_ | refine CW.skip ?_ | refine CW.exit ?_ | refine CW.ret ?_ | (refine thn_ret (K := K) ?_; clear hK K) | refine thn_ret ?_ | refine blk_ret ?_ | (refine thn_exit (K := K) ?_; clear hK K) | refine thn_exit ?_ | refine blk_here ?_ | refine blk_past rfl ?_ | refine thn_norm ?_ | refine blk_norm ?_ | refine CW.condT rfl ?_ | refine CW.condF rfl ?_ | (refine hK _ _ ?_; clear hK K))
        first | refine WL.step rfl ?_ | refine WL.gstep rfl rfl rfl rfl ?_
        refine OpW.buildLit [bv 0] rfl rfl rfl (lit1 _ rfl) ?_
        intro b8 w8 n8
        repeat (first | refine WL.nil ?_ | refine WL.auto (h := ?_) | refine WL.gskip rfl rfl rfl rfl ?_ | refine WL.gauto (h := ?_) | (refine CW.seq ?_; intro K hK) | refine CW.block ?_ | refine CW.region ?_ | refine CW.skip ?_ | refine CW.exit ?_ | refine CW.ret ?_ | (refine thn_ret (K := K) ?_; clear hK K) | refine thn_ret ?_ | refine blk_ret ?_ | (refine thn_exit (K := K) ?_; clear hK K) | refine thn_exit ?_ | refine blk_here ?_ | refine blk_past rfl ?_ | refine thn_norm ?_ | refine blk_norm ?_ | refine CW.condT rfl ?_ | refine CW.condF rfl ?_ | (refine hK _ _ ?_; clear hK K))
        first | refine WL.step rfl ?_ | refine WL.gstep rfl rfl rfl rfl ?_
        refine OpW.appB (w0 := w4) (l := sb) (m := [0]) rfl rfl rfl hln.symm rfl rfl (o7'.grow n8.grow) (blk_sl_lit (vs := [bv 0]) n8) (g7.then n8.grow) (by simp; omega) (fun A9 c9 w9 o9 g9 _ => ?_)
        repeat (first | refine WL.nil ?_ | refine WL.auto (h := ?_) | refine WL.gskip rfl rfl rfl rfl ?_ | refine WL.gauto (h := ?_) | (refine CW.seq ?_; intro K hK) | refine CW.block ?_ | refine CW.region ?_ | refine CW.skip ?_ | refine CW.exit ?_ | refine CW.ret ?_ | (refine thn_ret (K := K) ?_; clear hK K) | refine thn_ret ?_ | refine blk_ret ?_ | (refine thn_exit (K := K) ?_; clear hK K) | refine thn_exit ?_ | refine blk_here ?_ | refine blk_past rfl ?_ | refine thn_norm ?_ | refine blk_norm ?_ | refine CW.condT rfl ?_ | refine CW.condF rfl ?_ | (refine hK _ _ ?_; clear hK K))
        exact next A9 c9 w9 (sb ++ [0]) sl _ hst o9 g9 (by simp; omega) (rep10 rfl rfl (congrArg (Value.int .i64) (by omega)) rfl rfl rfl (congrArg (Value.int .i64) (by omega)) rfl rfl rfl)
    · obtain rfl : m = f.data.length - f.safe := by omega
      have hcf : crashFile f (ks.drop kn) = ((crashRun f (ks.drop kn) (f.data.length - f.safe)).1.take (crashRun f (ks.drop kn) (f.data.length - f.safe)).2.1, (crashRun f (ks.drop kn) (f.data.length - f.safe)).2.2) := rfl
      have hln := crashRun_len (ks := ks.drop kn) hm
      generalize hs0 : crashRun f (ks.drop kn) (f.data.length - f.safe) = st at *
      obtain ⟨sb, sl, sk⟩ := st
      simp only at o7 hdr hln hcf
      subst hdr
      have gw24 : Grow w2 w7 := g4.then g7
      obtain ⟨cells, ho1, ho2⟩ := ho
      have oa2 : ∀ a, OA = some a → a.block < w2.heap.size := fun a ha => (ho1.in_ ha).2
      have hf3 := n3.fresh
      have hnS : ¬ (∃ a, OA = some a ∧ a.block = b3) := by
        rintro ⟨a, ha, e⟩
        have h7 := oa2 a ha
        omega
      replace ho1 := ho1.grow gw24
      repeat (first | refine WL.nil ?_ | refine WL.auto (h := ?_) | refine WL.gskip rfl rfl rfl rfl ?_ | refine WL.gauto (h := ?_) | (refine CW.seq ?_; intro K hK) | refine CW.block ?_ | refine CW.region ?_ | refine CW.skip ?_ | refine CW.exit ?_ | refine CW.ret ?_ | (refine thn_ret (K := K) ?_; clear hK K) | refine thn_ret ?_ | refine blk_ret ?_ | (refine thn_exit (K := K) ?_; clear hK K) | refine thn_exit ?_ | refine blk_here ?_ | refine blk_past rfl ?_ | refine thn_norm ?_ | refine blk_norm ?_ | refine CW.condT rfl ?_ | refine CW.condF rfl ?_ | (refine hK _ _ ?_; clear hK K))
      refine CW.held (fun b => ∃ a, OA = some a ∧ a.block = b) (.take 0 (.take 1 (.take 2 (.take 3 (.take 4 (.take 5 (.one 6 (.one 7 (.one 8 (.one 9 .nil)))))))))) rfl (by kernel_rfl) (by kernel_rfl) (fun w8 g8 => ?_)
      repeat (first | refine AL.nil ?_ | refine AL.auto (hn := ?_) | refine AL.gskip rfl rfl rfl rfl rfl ?_ | refine AL.goneSkip rfl rfl rfl rfl rfl ?_ | refine AL.gauto (hn := ?_) | refine AL.oauto (hn := ?_))
      refine AL.take rfl rfl rfl (fun w6 hg => OpW.sliceHi sl rfl rfl rfl (by have := o7.le; omega) ⟨rfl, rfl⟩) ?_
      first | refine AL.one rfl rfl ?_ | refine AL.gone rfl rfl rfl rfl rfl ?_
      refine OpW.build (cells := #[.string (bstr f.name), .slice A7 sl c7]) rfl rfl ⟨id, ?_⟩
      first | refine AL.one rfl rfl ?_ | refine AL.gone rfl rfl rfl rfl rfl ?_
      refine OpW.buildOne (.agg #[.string (bstr f.name), .slice A7 sl c7]) rfl rfl rfl ?_
      intro b9 w9 n9
      refine ⟨fun h => h.grow n9.grow, ?_⟩
      first | refine AL.one rfl rfl ?_ | refine AL.gone rfl rfl rfl rfl rfl ?_
      refine OpW.append (ys := [.string (bstr f.name), .slice A7 sl c7]) rfl rfl rfl (ho1.grow (g8.then n9.grow)) (blk_sl_lit (vs := [.string (bstr f.name), .slice A7 sl c7]) n9) rfl (one1 _ rfl) ⟨by omega, by omega⟩ (fun OA' oc' w10 o10 c10 _ => ?_)
      refine ⟨fun h => h.andThen c10, ?_⟩
      repeat (first | refine AL.nil ?_ | refine AL.auto (hn := ?_) | refine AL.gskip rfl rfl rfl rfl rfl ?_ | refine AL.goneSkip rfl rfl rfl rfl rfl ?_ | refine AL.gauto (hn := ?_) | refine AL.oauto (hn := ?_))
      repeat (first | refine WL.nil ?_ | refine WL.auto (h := ?_) | refine WL.gskip rfl rfl rfl rfl ?_ | refine WL.gauto (h := ?_) | (refine CW.seq ?_; intro K hK) | refine CW.block ?_ | refine CW.region ?_ | refine CW.skip ?_ | refine CW.exit ?_ | refine CW.ret ?_ | (refine thn_ret (K := K) ?_; clear hK K) | refine thn_ret ?_ | refine blk_ret ?_ | (refine thn_exit (K := K) ?_; clear hK K) | refine thn_exit ?_ | refine blk_here ?_ | refine blk_past rfl ?_ | refine thn_norm ?_ | refine blk_norm ?_ | refine CW.condT rfl ?_ | refine CW.condF rfl ?_ | (refine hK _ _ ?_; clear hK K))
      have g79 : Grow w7 w9 := g8.then n9.grow
      have gw10 : Grow w w10 := ((g2.then gw24).then g79).chgNew c10 (by
        rintro i hi ⟨a, ha, rfl⟩
        have h7 := (ho1.in_ ha).1.1
        omega)
      have z4 : w4.heap.size ≤ w7.heap.size := g7.size
      have z24 : w2.heap.size ≤ w4.heap.size := g4.size
      have z6 : w7.heap.size ≤ w9.heap.size := g79.size
      have z2 : w.heap.size ≤ w2.heap.size := g2.size
      have lt8 : ∀ a, A7 = some a → w4.heap.size ≤ a.block ∧ a.block < w7.heap.size := fun a ha => ⟨(o7.in_ ha).1, (o7.in_ ha).2⟩
      have hcl : cells.length = xs.length * 2 := ho1.1
      have hkn : kn + (f.data.length - f.safe) ≤ (k + 1) * 1099511627776 := by omega
      refine hJ (d.files.length - (k + 1)) _ _ (by omega) ⟨k + 1, OA', oc', kn + (f.data.length - f.safe), fun b => if b < w2.heap.size then col b else decide (w7.heap.size ≤ b), by omega, rfl, gw10, ?_, ?_, hkn, rep6 rfl ?_ rfl rfl rfl (congrArg (Value.int .i64) (by omega))⟩
      · rw [hsn1, hcf]
        refine ⟨cells ++ [.string (bstr f.name), .slice A7 sl c7], ?_, ?_⟩
        · simp only [List.length_append, List.length_cons, List.length_nil]
          refine o10.zone fun a ha => ?_
          rcases (o10.in_ ha).1 with ⟨a', h1, h2⟩ | h1
          · have h7 := (ho1.in_ h1).1
            have h8 := oa2 a' h1
            rw [h2] at h7 h8
            exact ⟨h7.1, by show (if _ then _ else _) = _; rw [if_pos h8]; exact h7.2⟩
          · exact ⟨by omega, by show (if _ then _ else _) = _; rw [if_neg (by omega)]; exact decide_eq_true (by omega)⟩
        · intro i x hx
          rcases Nat.lt_or_ge i xs.length with hi | hi
          · rw [List.getElem?_append_left hi] at hx
            obtain ⟨DA', c', p1, p2⟩ := ho2 i x hx
            refine ⟨DA', c', ?_, ?_⟩
            · rw [List.drop_append_of_le_length (by omega), List.take_append_of_le_length (by simp; omega)]
              exact p1
            · refine (((p2.grow gw24).grow g79).keep c10 ?_).zone fun a ha => ?_
              · rintro b7 hb7 ⟨a, ha, rfl⟩
                have h7 := (ho1.in_ ha).1.2
                rw [hb7.2] at h7; cases h7
              · have h7 := p2.in_ ha
                exact ⟨h7.1.1, by show (if _ then _ else _) = _; rw [if_pos h7.2]; exact h7.1.2⟩
          · have hin : i = xs.length := by
              have := (List.getElem?_eq_some_iff.1 hx).1
              simp at this; omega
            subst hin
            rw [List.getElem?_append_right (Nat.le_refl _), Nat.sub_self] at hx
            simp only [List.getElem?_cons_zero, Option.some.injEq] at hx
            subst hx
            have htl : (sb.take sl).length = sl := by simp; omega
            refine ⟨A7, c7, ?_, ?_⟩
            · rw [← hcl, List.drop_left]
              show _ = [Value.string (bstr f.name), .slice A7 (sb.take sl).length c7]
              rw [htl]; rfl
            · show Own w10 A7 5 1 (sb.take sl).length c7 (bvs (sb.take sl)) _
              rw [htl, ← bvs_take]
              have o9 := ((((o7.cut sl c7 (by omega) (by have := o7.le; omega) (Nat.le_refl _)).grow g79).keep c10 (by
                rintro b7 hb7 ⟨a, ha, rfl⟩
                have h7 := oa2 a ha
                have h8 : w4.heap.size ≤ a.block := hb7
                omega)))
              rw [Nat.mul_one] at o9
              refine o9.zone fun a ha => ?_
              have h7 := lt8 a ha
              exact ⟨by omega, by show (if _ then _ else _) = _; rw [if_neg (by omega)]; exact decide_eq_false (by omega)⟩
      · rw [hsn1, hcf]
      · rw [hsn1, hcf]; exact congrArg (fun n => Value.slice OA' n oc') (by simp)
  · obtain rfl : k = d.files.length := by omega
    rw [List.take_length] at hr
    repeat (first | refine WL.nil ?_ | refine WL.auto (h := ?_) | refine WL.gskip rfl rfl rfl rfl ?_ | refine WL.gauto (h := ?_) | (refine CW.seq ?_; intro K hK) | refine CW.block ?_ | refine CW.region ?_ | refine CW.skip ?_ | refine CW.exit ?_ | refine CW.ret ?_ | (refine thn_ret (K := K) ?_; clear hK K) | refine thn_ret ?_ | refine blk_ret ?_ | (refine thn_exit (K := K) ?_; clear hK K) | refine thn_exit ?_ | refine blk_here ?_ | refine blk_past rfl ?_ | refine thn_norm ?_ | refine blk_norm ?_ | refine CW.condT rfl ?_ | refine CW.condF rfl ?_ | (refine hK _ _ ?_; clear hK K))
    refine out1 (v := .slice OA xs.length ocap) Try.results39 rfl ⟨g2, OA, ocap, ?_, ?_⟩ (Or.inr rfl)
    · rw [hr]
    · rw [hr]
      have h9 := ho.in_
      obtain ⟨cells, y1, y2, y3, y4⟩ := h9
      refine ⟨cells, y1, fun hne a ha => (y2 hne a ha).elim And.left And.left, y3, fun i x hx => ?_⟩
      obtain ⟨DA, c, z1, z2, z3, z4⟩ := y4 i x hx
      exact ⟨DA, c, z1, z2, fun hne a ha => (z3 hne a ha).elim And.left And.left, z4⟩
end B
end Go.Proofs.Ytlofcomnhecgfaa
