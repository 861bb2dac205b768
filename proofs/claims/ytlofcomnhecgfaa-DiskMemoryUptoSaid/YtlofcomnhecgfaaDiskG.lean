/- What Crash hands back: files in new memory. No conditions. -/
import Derived.Test.YtlofcomnhecgfaaDiskF
import Derived.Test.YtlofcomnhecgfaaMem6
namespace Go.Proofs.Ytlofcomnhecgfaa
namespace B
attribute [local irreducible] OpW WL CW Ret Sl Blk thn blk outOf
set_option linter.unusedVariables false
set_option linter.unusedSimpArgs false
set_option maxRecDepth 4000

theorem crashAll_snoc (l : List PF) (f : PF) (ks : List Bool) : crashAll (l ++ [f]) ks = ((crashAll l ks).1 ++ [(f.name, (crashFile f (crashAll l ks).2).1)], (crashFile f (crashAll l ks).2).2) := by
  induction l generalizing ks with
  | nil => simp [crashAll]
  | cons g l ih => simp [crashAll, ih]
theorem crashAll_length (l : List PF) (ks : List Bool) : (crashAll l ks).1.length = l.length := by
  induction l generalizing ks with
  | nil => simp [crashAll]
  | cons g l ih => simp [crashAll, ih]
/-- Files that were handed out: their row's cells in ZA, their bytes in ZD. -/
def FilesOut (w : World) (OA : Option Addr) (cap : Nat) (xs : List (List UInt8 × List UInt8)) (ZA ZD : Nat → Prop) : Prop :=
  ∃ cells : List Value, Own w OA 52 2 xs.length cap cells ZA ∧ ∀ i x, xs[i]? = some x → ∃ DA, (cells.drop (i * 2)).take 2 = [.string (bstr x.1), .slice DA x.2.length x.2.length] ∧ Own w DA 5 1 x.2.length x.2.length (bvs x.2) ZD
theorem FilesOut.keep {S : Nat → Prop} {w w' : World} {OA : Option Addr} {cap : Nat} {xs : List (List UInt8 × List UInt8)} {ZA ZD : Nat → Prop} (h : FilesOut w OA cap xs ZA ZD) (hc : Chg S w w') (h1 : ∀ b, ZA b → ¬ S b) (h2 : ∀ b, ZD b → ¬ S b) : FilesOut w' OA cap xs ZA ZD := by
  obtain ⟨cells, g1, g2⟩ := h
  refine ⟨cells, g1.keep hc h1, fun i x hx => ?_⟩
  obtain ⟨DA, g3, g4⟩ := g2 i x hx
  exact ⟨DA, g3, g4.keep hc h2⟩
theorem FilesOut.zone {w : World} {OA : Option Addr} {cap : Nat} {xs : List (List UInt8 × List UInt8)} {ZA ZD ZA' ZD' : Nat → Prop} (h : FilesOut w OA cap xs ZA ZD) (h1 : ∀ b, b < w.heap.size → ZA b → ZA' b) (h2 : ∀ b, b < w.heap.size → ZD b → ZD' b) : FilesOut w OA cap xs ZA' ZD' := by
  obtain ⟨cells, g1, g2⟩ := h
  refine ⟨cells, g1.zone fun a ha => h1 _ (g1.in_ ha).2 (g1.in_ ha).1, fun i x hx => ?_⟩
  obtain ⟨DA, g3, g4⟩ := g2 i x hx
  exact ⟨DA, g3, g4.zone fun a ha => h2 _ (g4.in_ ha).2 (g4.in_ ha).1⟩

theorem set_mid (a : List UInt8) (c u : UInt8) (b : List UInt8) : (a ++ c :: b).set a.length u = a ++ u :: b := by
  induction a with
  | nil => rfl
  | cons x a ih => simp [ih]
theorem set_at {a : List UInt8} {c u : UInt8} {b : List UInt8} {n : Nat} (h : a.length = n) : (a ++ c :: b).set n u = a ++ u :: b := by
  subst h; exact set_mid a c u b
theorem crash38 (tag : Nat → Tag) (db : Nat) (FA : Option Addr) (fcap : Nat) (fs : List Nat) (d : PD) (KA0 : Option Addr) (kcap0 : Nat) (ks : List Bool) (w : World) (h : DiskAt tag w db FA fcap fs d) (hn : d.files.length ≤ 16) (hd : ∀ f ∈ d.files, f.data.length ≤ 1099511627776 ∧ f.safe ≤ f.data.length)
    (hk : Sl w KA0 (ks.map .bool)) (hkl : ks.length ≤ 1099511627776) (hkc : ks.length ≤ kcap0) :
    Ret Try.prog 38 #[.pointer (some ⟨db, 0, none⟩), .slice KA0 ks.length kcap0] w fun v w' => Grow w w' ∧ ∃ (OA : Option Addr) (cap : Nat) (col : Nat → Bool), v = .slice OA (crashAll d.files ks).1.length cap ∧ FilesOut w' OA cap (crashAll d.files ks).1 (fun b => w.heap.size ≤ b ∧ col b = true) (fun b => w.heap.size ≤ b ∧ col b = false) := by
  have hb := h.blk
  refine Ret.enter (fn := Try.f38) (N := 75) Try.func38 rfl Try.ntmps38 rfl ?_
  repeat (first | refine WL.nil ?_ | refine WL.auto (h := ?_) | refine WL.gskip rfl rfl rfl rfl ?_ | refine WL.gauto (h := ?_) | (refine CW.seq ?_; intro K hK) | refine CW.block ?_ | refine CW.region ?_ | refine CW.skip ?_ | refine CW.exit ?_ | refine CW.ret ?_ | (refine thn_ret (K := K) ?_; clear hK K) | refine thn_ret ?_ | refine blk_ret ?_ | (refine thn_exit (K := K) ?_; clear hK K) | refine thn_exit ?_ | refine blk_here ?_ | refine blk_past rfl ?_ | refine thn_norm ?_ | refine blk_norm ?_ | refine CW.condT rfl ?_ | refine CW.condF rfl ?_ | (refine hK _ _ ?_; clear hK K))
  refine CW.loop (fun n' e w3 => ∃ (k : Nat) (OA : Option Addr) (ocap : Nat) (KA : Option Addr) (kcap : Nat) (col : Nat → Bool), k ≤ d.files.length ∧ n' = d.files.length - k ∧ Grow w w3 ∧ FilesOut w3 OA ocap (crashAll (d.files.take k) ks).1 (fun b => w.heap.size ≤ b ∧ col b = true) (fun b => w.heap.size ≤ b ∧ col b = false) ∧
    Sl w KA ((crashAll (d.files.take k) ks).2.map .bool) ∧ (crashAll (d.files.take k) ks).2.length ≤ ks.length ∧ (crashAll (d.files.take k) ks).2.length ≤ kcap ∧
    ∃ e0, e = upd (upd (upd (upd (upd e0 1 (.slice KA (crashAll (d.files.take k) ks).2.length kcap)) 5 (.slice OA (crashAll (d.files.take k) ks).1.length ocap)) 17 (.slice FA d.files.length fcap)) 18 (.int .i64 d.files.length)) 19 (.int .i64 k)) d.files.length ?_ ?_
  · exact ⟨0, none, 0, KA0, kcap0, fun _ => true, by omega, rfl, Chg.refl _ _, ⟨[], Own.nil _ _ _ _, fun i x hx => by simp [crashAll] at hx⟩, hk, Nat.le_refl _, hkc, rep5 rfl rfl rfl rfl rfl⟩
  rintro n' e w2 ⟨k, OA, ocap, KA, kcap, col, hkn, rfl, g2, ho, hk2, hkl2, hkc2, e0, rfl⟩ KJ hJ
  have hsn : ∀ hkl : k < d.files.length, crashAll (d.files.take (k + 1)) ks = ((crashAll (d.files.take k) ks).1 ++ [((d.files[k]).name, (crashFile (d.files[k]) (crashAll (d.files.take k) ks).2).1)], (crashFile (d.files[k]) (crashAll (d.files.take k) ks).2).2) := fun hkl => by rw [List.take_succ_eq_append_getElem hkl, crashAll_snoc]
  have hol : (crashAll (d.files.take k) ks).1.length = k := by rw [crashAll_length]; simp; omega
  generalize hr : crashAll (d.files.take k) ks = r at *
  obtain ⟨xs, rs⟩ := r
  simp only at ho hk2 hkl2 hkc2 hsn hol
  repeat (first | refine WL.nil ?_ | refine WL.auto (h := ?_) | refine WL.gskip rfl rfl rfl rfl ?_ | refine WL.gauto (h := ?_) | (refine CW.seq ?_; intro K hK) | refine CW.block ?_ | refine CW.region ?_ | refine CW.skip ?_ | refine CW.exit ?_ | refine CW.ret ?_ | (refine thn_ret (K := K) ?_; clear hK K) | refine thn_ret ?_ | refine blk_ret ?_ | (refine thn_exit (K := K) ?_; clear hK K) | refine thn_exit ?_ | refine blk_here ?_ | refine blk_past rfl ?_ | refine thn_norm ?_ | refine blk_norm ?_ | refine CW.condT rfl ?_ | refine CW.condF rfl ?_ | (refine hK _ _ ?_; clear hK K))
  refine CW.condP rfl (fun h2 => ?_) (fun h2 => ?_)
  · have hkl : k < d.files.length := by omega
    have hkf : k < fs.length := by rw [h.len]; exact hkl
    have hkb : k < (ptrs fs).length := by rw [ptrs_length]; exact hkf
    have hsl := (h.own.grow g2).sl
    obtain ⟨h3, DA, dcap, h4, h5⟩ := (h.grow g2).file k d.files[k] fs[k] (List.getElem?_eq_getElem hkl) (List.getElem?_eq_getElem hkf)
    have hat : (ptrs fs)[k]? = some (.pointer (some ⟨fs[k], 0, none⟩)) := by simp [ptrs, hkf]
    have hf := hd d.files[k] (List.getElem_mem hkl)
    have hsn1 := hsn hkl
    clear hsn
    generalize d.files[k] = f at *
    obtain ⟨hfl, hfs⟩ := hf
    repeat (first | refine WL.nil ?_ | refine WL.auto (h := ?_) | refine WL.gskip rfl rfl rfl rfl ?_ | refine WL.gauto (h := ?_) | (refine CW.seq ?_; intro K hK) | refine CW.block ?_ | refine CW.region ?_ | refine CW.skip ?_ | refine CW.exit ?_ | refine CW.ret ?_ | (refine thn_ret (K := K) ?_; clear hK K) | refine thn_ret ?_ | refine blk_ret ?_ | (refine thn_exit (K := K) ?_; clear hK K) | refine thn_exit ?_ | refine blk_here ?_ | refine blk_past rfl ?_ | refine thn_norm ?_ | refine blk_norm ?_ | refine CW.condT rfl ?_ | refine CW.condF rfl ?_ | (refine hK _ _ ?_; clear hK K))
    first | refine WL.step rfl ?_ | refine WL.gstep rfl rfl rfl rfl ?_
    refine OpW.indexAddr k rfl rfl rfl hkl (sl_ne hsl hkb) (sl_sp hsl hkb) ?_
    repeat (first | refine WL.nil ?_ | refine WL.auto (h := ?_) | refine WL.gskip rfl rfl rfl rfl ?_ | refine WL.gauto (h := ?_) | (refine CW.seq ?_; intro K hK) | refine CW.block ?_ | refine CW.region ?_ | refine CW.skip ?_ | refine CW.exit ?_ | refine CW.ret ?_ | (refine thn_ret (K := K) ?_; clear hK K) | refine thn_ret ?_ | refine blk_ret ?_ | (refine thn_exit (K := K) ?_; clear hK K) | refine thn_exit ?_ | refine blk_here ?_ | refine blk_past rfl ?_ | refine thn_norm ?_ | refine blk_norm ?_ | refine CW.condT rfl ?_ | refine CW.condF rfl ?_ | (refine hK _ _ ?_; clear hK K))
    first | refine WL.step rfl ?_ | refine WL.gstep rfl rfl rfl rfl ?_
    refine OpW.loadS (v := .pointer (some ⟨fs[k], 0, none⟩)) rfl hsl (by simpa using hat) ?_
    repeat (first | refine WL.nil ?_ | refine WL.auto (h := ?_) | refine WL.gskip rfl rfl rfl rfl ?_ | refine WL.gauto (h := ?_) | (refine CW.seq ?_; intro K hK) | refine CW.block ?_ | refine CW.region ?_ | refine CW.skip ?_ | refine CW.exit ?_ | refine CW.ret ?_ | (refine thn_ret (K := K) ?_; clear hK K) | refine thn_ret ?_ | refine blk_ret ?_ | (refine thn_exit (K := K) ?_; clear hK K) | refine thn_exit ?_ | refine blk_here ?_ | refine blk_past rfl ?_ | refine thn_norm ?_ | refine blk_norm ?_ | refine CW.condT rfl ?_ | refine CW.condF rfl ?_ | (refine hK _ _ ?_; clear hK K))
    have fk2 := h4.lt
    have fk0 : fs[k] < w.heap.size := (h.file k d.files[k] fs[k] (List.getElem?_eq_getElem hkl) (List.getElem?_eq_getElem hkf)).2.lt
    first | refine WL.step rfl ?_ | refine WL.gstep rfl rfl rfl rfl ?_
    refine OpW.call ((clone73 _ _ _ _ h5.sl (by omega)).mono ?_) rfl
    rintro v w3 ⟨A8, c8, rfl, o8, g3⟩
    replace h4 := h4.grow g3
    repeat (first | refine WL.nil ?_ | refine WL.auto (h := ?_) | refine WL.gskip rfl rfl rfl rfl ?_ | refine WL.gauto (h := ?_) | (refine CW.seq ?_; intro K hK) | refine CW.block ?_ | refine CW.region ?_ | refine CW.skip ?_ | refine CW.exit ?_ | refine CW.ret ?_ | (refine thn_ret (K := K) ?_; clear hK K) | refine thn_ret ?_ | refine blk_ret ?_ | (refine thn_exit (K := K) ?_; clear hK K) | refine thn_exit ?_ | refine blk_here ?_ | refine blk_past rfl ?_ | refine thn_norm ?_ | refine blk_norm ?_ | refine CW.condT rfl ?_ | refine CW.condF rfl ?_ | (refine hK _ _ ?_; clear hK K))
    refine CW.loop (fun n' e w4 => ∃ (m : Nat) (KA' : Option Addr) (kc' : Nat), f.safe + m ≤ f.data.length ∧ n' = f.data.length - f.safe - m ∧ Own w4 A8 5 1 f.data.length c8 (bvs ((crashRun f rs m).1 ++ f.data.drop (f.safe + m))) (fresh w2) ∧ Chg (fun b => ∃ a, A8 = some a ∧ a.block = b) w3 w4 ∧
      Sl w KA' ((crashRun f rs m).2.2.map .bool) ∧ (crashRun f rs m).2.2.length ≤ rs.length ∧ (crashRun f rs m).2.2.length ≤ kc' ∧
      ∃ e0, e = upd (upd (upd (upd (upd (upd (upd (upd (upd e0 1 (.slice KA' (crashRun f rs m).2.2.length kc')) 5 (.slice OA xs.length ocap)) 7 (.pointer (some ⟨fs[k], 0, none⟩))) 8 (.slice A8 f.data.length c8)) 9 (.int .i64 ((crashRun f rs m).2.1 : Nat))) 10 (.int .i64 ((f.safe + m : Nat) : Int))) 17 (.slice FA d.files.length fcap)) 18 (.int .i64 d.files.length)) 19 (.int .i64 k)) (f.data.length - f.safe) ?_ ?_
    · refine ⟨0, KA, kcap, by omega, rfl, ?_, Chg.refl _ _, hk2, Nat.le_refl _, hkc2, rep9 rfl rfl rfl rfl rfl rfl rfl rfl rfl⟩
      simpa [crashRun] using o8
    clear hk2 hkc2 h2 o8
    rintro n' e w4 ⟨m, KA', kc', hm, rfl, o8, c4, k1, k2, k3, e0, rfl⟩ KJ2 hJ2
    repeat (first | refine WL.nil ?_ | refine WL.auto (h := ?_) | refine WL.gskip rfl rfl rfl rfl ?_ | refine WL.gauto (h := ?_) | (refine CW.seq ?_; intro K hK) | refine CW.block ?_ | refine CW.region ?_ | refine CW.skip ?_ | refine CW.exit ?_ | refine CW.ret ?_ | (refine thn_ret (K := K) ?_; clear hK K) | refine thn_ret ?_ | refine blk_ret ?_ | (refine thn_exit (K := K) ?_; clear hK K) | refine thn_exit ?_ | refine blk_here ?_ | refine blk_past rfl ?_ | refine thn_norm ?_ | refine blk_norm ?_ | refine CW.condT rfl ?_ | refine CW.condF rfl ?_ | (refine hK _ _ ?_; clear hK K))
    refine CW.condP rfl (fun h6 => ?_) (fun h6 => ?_)
    · have hmc : f.safe + m < f.data.length := by omega
      have hst := crashRun_step (ks := rs) hmc
      have hln := (crashRun_len (ks := rs) hm).1
      have hdr : f.data.drop (f.safe + m) = f.data[f.safe + m] :: f.data.drop (f.safe + (m + 1)) := List.drop_eq_getElem_cons hmc
      generalize hs0 : crashRun f rs m = st at *
      obtain ⟨sb, sl, sk⟩ := st
      simp only at o8 k1 k2 k3 hln
      obtain ⟨c0, hc0⟩ : ∃ c0, f.data[f.safe + m] = c0 := ⟨_, rfl⟩
      rw [hc0] at hst hdr
      have hmc8 : f.safe + m < (bvs (sb ++ f.data.drop (f.safe + m))).length := by rw [bvs_length]; simp [hln]; omega
      have hset : (bvs (sb ++ f.data.drop (f.safe + m))).set (f.safe + m) (.int .u8 0) = bvs (sb ++ [0] ++ f.data.drop (f.safe + (m + 1))) := by
        have h1 := bvs_set (sb ++ f.data.drop (f.safe + m)) (f.safe + m) 0
        rw [show bv 0 = .int .u8 0 from rfl] at h1
        rw [← h1, hdr, set_at hln]
        simp
      have hkeep : bvs (sb ++ f.data.drop (f.safe + m)) = bvs (sb ++ [c0] ++ f.data.drop (f.safe + (m + 1))) := by
        rw [hdr]; simp
      have gw4 : Grow w w4 := (g2.then g3).chgNew c4 (by
        rintro i hi ⟨a, ha, rfl⟩
        have h7 : w2.heap.size ≤ a.block := (o8.in_ ha).1
        have h8 := g2.size
        omega)
      cases sk with
      | nil =>
        repeat (first | refine WL.nil ?_ | refine WL.auto (h := ?_) | refine WL.gskip rfl rfl rfl rfl ?_ | refine WL.gauto (h := ?_) | (refine CW.seq ?_; intro K hK) | refine CW.block ?_ | refine CW.region ?_ | refine CW.skip ?_ | refine CW.exit ?_ | refine CW.ret ?_ | (refine thn_ret (K := K) ?_; clear hK K) | refine thn_ret ?_ | refine blk_ret ?_ | (refine thn_exit (K := K) ?_; clear hK K) | refine thn_exit ?_ | refine blk_here ?_ | refine blk_past rfl ?_ | refine thn_norm ?_ | refine blk_norm ?_ | refine CW.condT rfl ?_ | refine CW.condF rfl ?_ | (refine hK _ _ ?_; clear hK K))
        first | refine WL.step rfl ?_ | refine WL.gstep rfl rfl rfl rfl ?_
        refine OpW.indexAddr (f.safe + m) rfl rfl rfl hmc (sl_ne o8.sl hmc8) (spot_own o8) ?_
        repeat (first | refine WL.nil ?_ | refine WL.auto (h := ?_) | refine WL.gskip rfl rfl rfl rfl ?_ | refine WL.gauto (h := ?_) | (refine CW.seq ?_; intro K hK) | refine CW.block ?_ | refine CW.region ?_ | refine CW.skip ?_ | refine CW.exit ?_ | refine CW.ret ?_ | (refine thn_ret (K := K) ?_; clear hK K) | refine thn_ret ?_ | refine blk_ret ?_ | (refine thn_exit (K := K) ?_; clear hK K) | refine thn_exit ?_ | refine blk_here ?_ | refine blk_past rfl ?_ | refine thn_norm ?_ | refine blk_norm ?_ | refine CW.condT rfl ?_ | refine CW.condF rfl ?_ | (refine hK _ _ ?_; clear hK K))
        refine WL.step0 ?_
        refine OpW.storeOwn (v := .int .u8 0) rfl rfl rfl o8 hmc ?_
        intro w5 o9 c5 _
        rw [hset] at o9
        repeat (first | refine WL.nil ?_ | refine WL.auto (h := ?_) | refine WL.gskip rfl rfl rfl rfl ?_ | refine WL.gauto (h := ?_) | (refine CW.seq ?_; intro K hK) | refine CW.block ?_ | refine CW.region ?_ | refine CW.skip ?_ | refine CW.exit ?_ | refine CW.ret ?_ | (refine thn_ret (K := K) ?_; clear hK K) | refine thn_ret ?_ | refine blk_ret ?_ | (refine thn_exit (K := K) ?_; clear hK K) | refine thn_exit ?_ | refine blk_here ?_ | refine blk_past rfl ?_ | refine thn_norm ?_ | refine blk_norm ?_ | refine CW.condT rfl ?_ | refine CW.condF rfl ?_ | (refine hK _ _ ?_; clear hK K))
        refine hJ2 (f.data.length - f.safe - (m + 1)) _ _ (by omega) ⟨m + 1, KA', kc', by omega, rfl, ?_, ?_, ?_, ?_, ?_, rep9 ?_ rfl rfl rfl ?_ (congrArg (Value.int .i64) (by omega)) rfl rfl rfl⟩
        · rw [hst]; exact o9
        · exact c4.andThen c5
        · rw [hst]; exact k1
        · rw [hst]; exact k2
        · rw [hst]; exact k3
        · rw [hst]; rfl
        · rw [hst]; rfl
      | cons kb sk =>
        have hpos : decide ((0 : Int) < (((kb :: sk).length : Nat) : Int)) = true := decide_eq_true (by simp only [List.length_cons]; omega)
        have k1r : Sl w4 KA' (.bool kb :: sk.map .bool) := k1.grow gw4
        repeat (first | refine WL.nil ?_ | refine WL.auto (h := ?_) | refine WL.gskip rfl rfl rfl rfl ?_ | refine WL.gauto (h := ?_) | (refine CW.seq ?_; intro K hK) | refine CW.block ?_ | refine CW.region ?_ | refine CW.skip ?_ | refine CW.exit ?_ | refine CW.ret ?_ | (refine thn_ret (K := K) ?_; clear hK K) | refine thn_ret ?_ | refine blk_ret ?_ | (refine thn_exit (K := K) ?_; clear hK K) | refine thn_exit ?_ | refine blk_here ?_ | refine blk_past rfl ?_ | refine thn_norm ?_ | refine blk_norm ?_ | refine CW.condT rfl ?_ | refine CW.condF rfl ?_ | (refine hK _ _ ?_; clear hK K))
        rw [hpos]
        repeat (first | refine WL.nil ?_ | refine WL.auto (h := ?_) | refine WL.gskip rfl rfl rfl rfl ?_ | refine WL.gauto (h := ?_) | (refine CW.seq ?_; intro K hK) | refine CW.block ?_ | refine CW.region ?_ | refine CW.skip ?_ | refine CW.exit ?_ | refine CW.ret ?_ | (refine thn_ret (K := K) ?_; clear hK K) | refine thn_ret ?_ | refine blk_ret ?_ | (refine thn_exit (K := K) ?_; clear hK K) | refine thn_exit ?_ | refine blk_here ?_ | refine blk_past rfl ?_ | refine thn_norm ?_ | refine blk_norm ?_ | refine CW.condT rfl ?_ | refine CW.condF rfl ?_ | (refine hK _ _ ?_; clear hK K))
        first | refine WL.step rfl ?_ | refine WL.gstep rfl rfl rfl rfl ?_
        refine OpW.indexAddr 0 rfl rfl rfl (by simp) (sl_ne k1r (i := 0) (by simp)) (sl_sp k1r (i := 0) (by simp)) ?_
        repeat (first | refine WL.nil ?_ | refine WL.auto (h := ?_) | refine WL.gskip rfl rfl rfl rfl ?_ | refine WL.gauto (h := ?_) | (refine CW.seq ?_; intro K hK) | refine CW.block ?_ | refine CW.region ?_ | refine CW.skip ?_ | refine CW.exit ?_ | refine CW.ret ?_ | (refine thn_ret (K := K) ?_; clear hK K) | refine thn_ret ?_ | refine blk_ret ?_ | (refine thn_exit (K := K) ?_; clear hK K) | refine thn_exit ?_ | refine blk_here ?_ | refine blk_past rfl ?_ | refine thn_norm ?_ | refine blk_norm ?_ | refine CW.condT rfl ?_ | refine CW.condF rfl ?_ | (refine hK _ _ ?_; clear hK K))
        rw [hpos]
        repeat (first | refine WL.nil ?_ | refine WL.auto (h := ?_) | refine WL.gskip rfl rfl rfl rfl ?_ | refine WL.gauto (h := ?_) | (refine CW.seq ?_; intro K hK) | refine CW.block ?_ | refine CW.region ?_ | refine CW.skip ?_ | refine CW.exit ?_ | refine CW.ret ?_ | (refine thn_ret (K := K) ?_; clear hK K) | refine thn_ret ?_ | refine blk_ret ?_ | (refine thn_exit (K := K) ?_; clear hK K) | refine thn_exit ?_ | refine blk_here ?_ | refine blk_past rfl ?_ | refine thn_norm ?_ | refine blk_norm ?_ | refine CW.condT rfl ?_ | refine CW.condF rfl ?_ | (refine hK _ _ ?_; clear hK K))
        first | refine WL.step rfl ?_ | refine WL.gstep rfl rfl rfl rfl ?_
        refine OpW.sliceLo 1 rfl rfl rfl (by simp) (sl_sp k1r (i := 0) (by simp)) (fun B hB => ?_)
        have k5 : Sl w B (sk.map .bool) := k1.drop' 1 (sl_sp k1r (i := 0) (by simp)) B (by
          rcases hB with ⟨h1, h2⟩ | h1
          · refine Or.inl ⟨h1, ?_⟩
            simp only [List.length_map, List.length_cons] at k3 ⊢; omega
          · exact Or.inr h1)
        have k6 : sk.length ≤ rs.length := by simp only [List.length_cons] at k2; omega
        have k7 : sk.length ≤ kc' - 1 := by simp only [List.length_cons] at k3; omega
        repeat (first | refine WL.nil ?_ | refine WL.auto (h := ?_) | refine WL.gskip rfl rfl rfl rfl ?_ | refine WL.gauto (h := ?_) | (refine CW.seq ?_; intro K hK) | refine CW.block ?_ | refine CW.region ?_ | refine CW.skip ?_ | refine CW.exit ?_ | refine CW.ret ?_ | (refine thn_ret (K := K) ?_; clear hK K) | refine thn_ret ?_ | refine blk_ret ?_ | (refine thn_exit (K := K) ?_; clear hK K) | refine thn_exit ?_ | refine blk_here ?_ | refine blk_past rfl ?_ | refine thn_norm ?_ | refine blk_norm ?_ | refine CW.condT rfl ?_ | refine CW.condF rfl ?_ | (refine hK _ _ ?_; clear hK K))
        cases kb with
        | true =>
          repeat (first | refine WL.nil ?_ | refine WL.auto (h := ?_) | refine WL.gskip rfl rfl rfl rfl ?_ | refine WL.gauto (h := ?_) | (refine CW.seq ?_; intro K hK) | refine CW.block ?_ | refine CW.region ?_ | refine CW.skip ?_ | refine CW.exit ?_ | refine CW.ret ?_ | (refine thn_ret (K := K) ?_; clear hK K) | refine thn_ret ?_ | refine blk_ret ?_ | (refine thn_exit (K := K) ?_; clear hK K) | refine thn_exit ?_ | refine blk_here ?_ | refine blk_past rfl ?_ | refine thn_norm ?_ | refine blk_norm ?_ | refine CW.condT rfl ?_ | refine CW.condF rfl ?_ | (refine hK _ _ ?_; clear hK K))
          rw [hkeep] at o8
          refine hJ2 (f.data.length - f.safe - (m + 1)) _ _ (by omega) ⟨m + 1, B, kc' - 1, by omega, rfl, ?_, ?_, ?_, ?_, ?_, rep9 ?_ rfl rfl rfl ?_ (congrArg (Value.int .i64) (by omega)) rfl rfl rfl⟩
          · rw [hst]; exact o8
          · exact c4
          · rw [hst]; exact k5
          · rw [hst]; exact k6
          · rw [hst]; exact k7
          · rw [hst]; rfl
          · rw [hst]; exact congrArg (Value.int .i64) (by show _ = ((sb.length + 1 : Nat) : Int); omega)
        | false =>
          repeat (first | refine WL.nil ?_ | refine WL.auto (h := ?_) | refine WL.gskip rfl rfl rfl rfl ?_ | refine WL.gauto (h := ?_) | (refine CW.seq ?_; intro K hK) | refine CW.block ?_ | refine CW.region ?_ | refine CW.skip ?_ | refine CW.exit ?_ | refine CW.ret ?_ | (refine thn_ret (K := K) ?_; clear hK K) | refine thn_ret ?_ | refine blk_ret ?_ | (refine thn_exit (K := K) ?_; clear hK K) | refine thn_exit ?_ | refine blk_here ?_ | refine blk_past rfl ?_ | refine thn_norm ?_ | refine blk_norm ?_ | refine CW.condT rfl ?_ | refine CW.condF rfl ?_ | (refine hK _ _ ?_; clear hK K))
          first | refine WL.step rfl ?_ | refine WL.gstep rfl rfl rfl rfl ?_
          refine OpW.indexAddr (f.safe + m) rfl rfl rfl hmc (sl_ne o8.sl hmc8) (spot_own o8) ?_
          repeat (first | refine WL.nil ?_ | refine WL.auto (h := ?_) | refine WL.gskip rfl rfl rfl rfl ?_ | refine WL.gauto (h := ?_) | (refine CW.seq ?_; intro K hK) | refine CW.block ?_ | refine CW.region ?_ | refine CW.skip ?_ | refine CW.exit ?_ | refine CW.ret ?_ | (refine thn_ret (K := K) ?_; clear hK K) | refine thn_ret ?_ | refine blk_ret ?_ | (refine thn_exit (K := K) ?_; clear hK K) | refine thn_exit ?_ | refine blk_here ?_ | refine blk_past rfl ?_ | refine thn_norm ?_ | refine blk_norm ?_ | refine CW.condT rfl ?_ | refine CW.condF rfl ?_ | (refine hK _ _ ?_; clear hK K))
          refine WL.step0 ?_
          refine OpW.storeOwn (v := .int .u8 0) rfl rfl rfl o8 hmc ?_
          intro w5 o9 c5 _
          rw [hset] at o9
          repeat (first | refine WL.nil ?_ | refine WL.auto (h := ?_) | refine WL.gskip rfl rfl rfl rfl ?_ | refine WL.gauto (h := ?_) | (refine CW.seq ?_; intro K hK) | refine CW.block ?_ | refine CW.region ?_ | refine CW.skip ?_ | refine CW.exit ?_ | refine CW.ret ?_ | (refine thn_ret (K := K) ?_; clear hK K) | refine thn_ret ?_ | refine blk_ret ?_ | (refine thn_exit (K := K) ?_; clear hK K) | refine thn_exit ?_ | refine blk_here ?_ | refine blk_past rfl ?_ | refine thn_norm ?_ | refine blk_norm ?_ | refine CW.condT rfl ?_ | refine CW.condF rfl ?_ | (refine hK _ _ ?_; clear hK K))
          refine hJ2 (f.data.length - f.safe - (m + 1)) _ _ (by omega) ⟨m + 1, B, kc' - 1, by omega, rfl, ?_, ?_, ?_, ?_, ?_, rep9 ?_ rfl rfl rfl ?_ (congrArg (Value.int .i64) (by omega)) rfl rfl rfl⟩
          · rw [hst]; exact o9
          · exact c4.andThen c5
          · rw [hst]; exact k5
          · rw [hst]; exact k6
          · rw [hst]; exact k7
          · rw [hst]; rfl
          · rw [hst]; rfl
    · obtain rfl : m = f.data.length - f.safe := by omega
      have hcf : crashFile f rs = ((crashRun f rs (f.data.length - f.safe)).1.take (crashRun f rs (f.data.length - f.safe)).2.1, (crashRun f rs (f.data.length - f.safe)).2.2) := rfl
      have hln := crashRun_len (ks := rs) hm
      generalize hs0 : crashRun f rs (f.data.length - f.safe) = st at *
      obtain ⟨sb, sl, sk⟩ := st
      simp only at o8 k1 k2 k3 hln hcf
      rw [List.drop_of_length_le (by omega), List.append_nil] at o8
      repeat (first | refine WL.nil ?_ | refine WL.auto (h := ?_) | refine WL.gskip rfl rfl rfl rfl ?_ | refine WL.gauto (h := ?_) | (refine CW.seq ?_; intro K hK) | refine CW.block ?_ | refine CW.region ?_ | refine CW.skip ?_ | refine CW.exit ?_ | refine CW.ret ?_ | (refine thn_ret (K := K) ?_; clear hK K) | refine thn_ret ?_ | refine blk_ret ?_ | (refine thn_exit (K := K) ?_; clear hK K) | refine thn_exit ?_ | refine blk_here ?_ | refine blk_past rfl ?_ | refine thn_norm ?_ | refine blk_norm ?_ | refine CW.condT rfl ?_ | refine CW.condF rfl ?_ | (refine hK _ _ ?_; clear hK K))
      have gw24 : Grow w2 w4 := g3.chgNew c4 (by
        rintro i hi ⟨a, ha, rfl⟩
        have h7 : w2.heap.size ≤ a.block := (o8.in_ ha).1
        omega)
      have h48 := h4.keep c4 (by
        rintro ⟨a, ha, e⟩
        have h7 : w2.heap.size ≤ a.block := (o8.in_ ha).1
        omega)
      obtain ⟨cells, ho1, ho2⟩ := ho
      have oa2 : ∀ a, OA = some a → a.block < w2.heap.size := fun a ha => (ho1.in_ ha).2
      replace ho1 := ho1.grow gw24
      have hnS : ¬ (∃ a, OA = some a ∧ a.block = fs[k]) := by
        rintro ⟨a, ha, e⟩
        have h7 := (ho1.in_ ha).1.1
        omega
      refine CW.held (fun b => ∃ a, OA = some a ∧ a.block = b) (.take 0 (.take 1 (.take 2 (.take 3 (.take 4 (.take 5 (.take 6 (.take 7 (.take 8 (.one 9 (.one 10 (.one 11 (.one 12 .nil))))))))))))) rfl (by kernel_rfl) (by kernel_rfl) (fun w5 g5 => ?_)
      repeat (first | refine AL.nil ?_ | refine AL.auto (hn := ?_) | refine AL.gskip rfl rfl rfl rfl rfl ?_ | refine AL.goneSkip rfl rfl rfl rfl rfl ?_ | refine AL.gauto (hn := ?_) | refine AL.oauto (hn := ?_))
      refine AL.take rfl rfl rfl (fun w6 hg => OpW.sliceHiMax sl rfl rfl rfl rfl rfl (by have := o8.le; omega) ⟨rfl, rfl⟩) ?_
      first | refine AL.one rfl rfl ?_ | refine AL.gone rfl rfl rfl rfl rfl ?_
      refine OpW.build (cells := #[.string (bstr f.name), .slice A8 sl sl]) rfl rfl ⟨id, ?_⟩
      first | refine AL.one rfl rfl ?_ | refine AL.gone rfl rfl rfl rfl rfl ?_
      refine OpW.buildOne (.agg #[.string (bstr f.name), .slice A8 sl sl]) rfl rfl rfl ?_
      intro b6 w6 n6
      refine ⟨fun h => h.grow n6.grow, ?_⟩
      first | refine AL.one rfl rfl ?_ | refine AL.gone rfl rfl rfl rfl rfl ?_
      refine OpW.append (ys := [.string (bstr f.name), .slice A8 sl sl]) rfl rfl rfl (ho1.grow (g5.then n6.grow)) (blk_sl_lit (vs := [.string (bstr f.name), .slice A8 sl sl]) n6) rfl (by intro v hv; simp only [List.mem_cons, List.not_mem_nil, or_false] at hv; rcases hv with rfl | rfl <;> rfl) ⟨by omega, by omega⟩ (fun OA' oc' w7 o7 c7 _ => ?_)
      refine ⟨fun h => h.andThen c7, ?_⟩
      repeat (first | refine AL.nil ?_ | refine AL.auto (hn := ?_) | refine AL.gskip rfl rfl rfl rfl rfl ?_ | refine AL.goneSkip rfl rfl rfl rfl rfl ?_ | refine AL.gauto (hn := ?_) | refine AL.oauto (hn := ?_))
      repeat (first | refine WL.nil ?_ | refine WL.auto (h := ?_) | refine WL.gskip rfl rfl rfl rfl ?_ | refine WL.gauto (h := ?_) | (refine CW.seq ?_; intro K hK) | refine CW.block ?_ | refine CW.region ?_ | refine CW.skip ?_ | refine CW.exit ?_ | refine CW.ret ?_ | (refine thn_ret (K := K) ?_; clear hK K) | refine thn_ret ?_ | refine blk_ret ?_ | (refine thn_exit (K := K) ?_; clear hK K) | refine thn_exit ?_ | refine blk_here ?_ | refine blk_past rfl ?_ | refine thn_norm ?_ | refine blk_norm ?_ | refine CW.condT rfl ?_ | refine CW.condF rfl ?_ | (refine hK _ _ ?_; clear hK K))
      have g46 := g5.then n6.grow
      have gw7 : Grow w w7 := ((g2.then gw24).then g46).chgNew c7 (by
        rintro i hi ⟨a, ha, rfl⟩
        have h7 := (ho1.in_ ha).1.1
        omega)
      have z4 : w2.heap.size ≤ w4.heap.size := gw24.size
      have z6 : w4.heap.size ≤ w6.heap.size := g46.size
      have z2 : w.heap.size ≤ w2.heap.size := g2.size
      have lt8 : ∀ a, A8 = some a → w2.heap.size ≤ a.block ∧ a.block < w4.heap.size := fun a ha => ⟨(o8.in_ ha).1, (o8.in_ ha).2⟩
      have hcl : cells.length = xs.length * 2 := ho1.1
      refine hJ (d.files.length - (k + 1)) _ _ (by omega) ⟨k + 1, OA', oc', KA', kc', fun b => if b < w2.heap.size then col b else decide (w4.heap.size ≤ b), by omega, rfl, gw7, ?_, ?_, ?_, ?_, rep5 ?_ ?_ rfl rfl (congrArg (Value.int .i64) (by omega))⟩
      · rw [hsn1, hcf]
        refine ⟨cells ++ [.string (bstr f.name), .slice A8 sl sl], ?_, ?_⟩
        · simp only [List.length_append, List.length_cons, List.length_nil]
          refine o7.zone fun a ha => ?_
          rcases (o7.in_ ha).1 with ⟨a', h1, h2⟩ | h1
          · have h7 := (ho1.in_ h1).1
            have h8 := oa2 a' h1
            rw [h2] at h7 h8
            exact ⟨h7.1, by show (if _ then _ else _) = _; rw [if_pos h8]; exact h7.2⟩
          · exact ⟨by omega, by show (if _ then _ else _) = _; rw [if_neg (by omega)]; exact decide_eq_true (by omega)⟩
        · intro i x hx
          rcases Nat.lt_or_ge i xs.length with hi | hi
          · rw [List.getElem?_append_left hi] at hx
            obtain ⟨DA', q1, q2⟩ := ho2 i x hx
            refine ⟨DA', ?_, ?_⟩
            · rw [List.drop_append_of_le_length (by omega), List.take_append_of_le_length (by simp; omega)]
              exact q1
            · refine (((q2.grow gw24).grow g46).keep c7 ?_).zone fun a ha => ?_
              · rintro b7 hb7 ⟨a, ha, rfl⟩
                have h7 := (ho1.in_ ha).1.2
                rw [hb7.2] at h7; cases h7
              · have h7 := q2.in_ ha
                exact ⟨h7.1.1, by show (if _ then _ else _) = _; rw [if_pos h7.2]; exact h7.1.2⟩
          · have hin : i = xs.length := by
              have := (List.getElem?_eq_some_iff.1 hx).1
              simp at this; omega
            subst hin
            rw [List.getElem?_append_right (Nat.le_refl _), Nat.sub_self] at hx
            simp only [List.getElem?_cons_zero, Option.some.injEq] at hx
            subst hx
            have hsl8 : sl ≤ sb.length := by omega
            have htl : (sb.take sl).length = sl := by simp; omega
            refine ⟨A8, ?_, ?_⟩
            · rw [← hcl, List.drop_left]
              show _ = [Value.string (bstr f.name), .slice A8 (sb.take sl).length (sb.take sl).length]
              rw [htl]; rfl
            · show Own w7 A8 5 1 (sb.take sl).length (sb.take sl).length (bvs (sb.take sl)) _
              rw [htl, ← bvs_take]
              have o9 := ((((o8.cut sl sl (by omega) (Nat.le_refl _) (by have := o8.le; omega)).grow g46).keep c7 (by
                rintro b7 hb7 ⟨a, ha, rfl⟩
                have h7 := oa2 a ha
                have h8 : w2.heap.size ≤ a.block := hb7
                omega)))
              rw [Nat.mul_one] at o9
              refine o9.zone fun a ha => ?_
              have h7 := lt8 a ha
              exact ⟨by omega, by show (if _ then _ else _) = _; rw [if_neg (by omega)]; exact decide_eq_false (by omega)⟩
      · rw [hsn1, hcf]; exact k1
      · rw [hsn1, hcf]; show sk.length ≤ ks.length; omega
      · rw [hsn1, hcf]; exact k3
      · rw [hsn1, hcf]; rfl
      · rw [hsn1, hcf]; exact congrArg (fun n => Value.slice OA' n oc') (by simp)
  · obtain rfl : k = d.files.length := by omega
    rw [List.take_length] at hr
    repeat (first | refine WL.nil ?_ | refine WL.auto (h := ?_) | refine WL.gskip rfl rfl rfl rfl ?_ | refine WL.gauto (h := ?_) | (refine CW.seq ?_; intro K hK) | refine CW.block ?_ | refine CW.region ?_ | refine CW.skip ?_ | refine CW.exit ?_ | refine CW.ret ?_ | (refine thn_ret (K := K) ?_; clear hK K) | refine thn_ret ?_ | refine blk_ret ?_ | (refine thn_exit (K := K) ?_; clear hK K) | refine thn_exit ?_ | refine blk_here ?_ | refine blk_past rfl ?_ | refine thn_norm ?_ | refine blk_norm ?_ | refine CW.condT rfl ?_ | refine CW.condF rfl ?_ | (refine hK _ _ ?_; clear hK K))
    refine out1 (v := .slice OA xs.length ocap) Try.results38 rfl ⟨g2, OA, ocap, col, ?_, ?_⟩ (Or.inr rfl)
    · rw [hr]
    · rw [hr]; exact ho
end B
end Go.Proofs.Ytlofcomnhecgfaa
