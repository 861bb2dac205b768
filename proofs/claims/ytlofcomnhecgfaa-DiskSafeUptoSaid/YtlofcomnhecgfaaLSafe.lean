/- The walk of isthmuslaw06.DiskSafe: it is true. Sizes are bounded. -/
import Derived.Test.YtlofcomnhecgfaaDiskJ
import Derived.Test.YtlofcomnhecgfaaMem5
namespace Go.Proofs.Ytlofcomnhecgfaa
namespace B
attribute [local irreducible] OpW WL CW Ret Sl Blk thn blk outOf
set_option linter.unusedVariables false
set_option linter.unusedSimpArgs false
set_option maxRecDepth 4000

theorem crash_prefix {f : PF} {ks : List Bool} {k : Nat} (h : f.safe + k ≤ f.data.length) : (crashRun f ks k).1.take f.safe = f.data.take f.safe := by
  induction k with
  | zero => simp [crashRun, List.take_take]
  | succ k ih =>
    have h1 := ih (by omega)
    have h2 := (crashRun_len (f := f) (ks := ks) (k := k) (by omega)).1
    rw [crashRun_step (by omega)]
    unfold crashStep
    split <;> rw [List.take_append_of_le_length (l₁ := (crashRun f ks k).1) (by omega)] <;> exact h1
theorem crash_all {f : PF} {m : Nat} : ∀ k, k ≤ m → f.safe + k ≤ f.data.length → crashRun f (List.replicate m true) k = (f.data.take (f.safe + k), f.safe + k, List.replicate (m - k) true) := by
  intro k
  induction k with
  | zero => intro _ _; simp [crashRun]
  | succ k ih =>
    intro h1 h2
    rw [crashRun_step (by omega), ih (by omega) (by omega)]
    have h3 : List.replicate (m - k) true = true :: List.replicate (m - (k + 1)) true := by
      rw [show m - k = (m - (k + 1)) + 1 from by omega, List.replicate_succ]
    rw [h3]
    have h4 : f.data.take (f.safe + (k + 1)) = f.data.take (f.safe + k) ++ [f.data[f.safe + k]] := by
      rw [show f.safe + (k + 1) = f.safe + k + 1 from rfl, List.take_succ_eq_append_getElem (by omega)]
    simp only [crashStep, h4]
    rw [List.length_take, Nat.min_eq_left (by omega)]
    rfl
theorem crashFile_all {f : PF} (h : f.safe ≤ f.data.length) : (crashFile f (List.replicate (f.data.length - f.safe) true)).1 = f.data := by
  unfold crashFile
  rw [crash_all _ (Nat.le_refl _) (by omega)]
  simp only
  rw [show f.safe + (f.data.length - f.safe) = f.data.length from by omega]
  simp
theorem crashFile_mid {f : PF} (h : f.safe ≤ f.data.length) (ks : List Bool) : f.safe ≤ (crashFile f ks).1.length ∧ (crashFile f ks).1.length ≤ f.data.length ∧ (crashFile f ks).1.take f.safe = f.data.take f.safe := by
  have h1 := crashRun_len (f := f) (ks := ks) (k := f.data.length - f.safe) (by omega)
  have h2 := crash_prefix (f := f) (ks := ks) (k := f.data.length - f.safe) (by omega)
  unfold crashFile
  simp only
  refine ⟨by rw [List.length_take]; omega, by rw [List.length_take]; omega, ?_⟩
  rw [List.take_take, Nat.min_eq_left h1.2.1, h2]

theorem vset (k n : Nat) (h : k < n) : (List.replicate k (Value.bool true) ++ List.replicate (n - k) (Value.bool false)).set k (.bool true) = List.replicate (k + 1) (Value.bool true) ++ List.replicate (n - (k + 1)) (Value.bool false) := by
  rw [show n - k = (n - (k + 1)) + 1 from by omega, List.replicate_succ, List.set_append_right (h := by simp)]
  simp [List.replicate_succ']

theorem safe8 (A0 A1 KA : Option Addr) (cap0 cap1 kcap : Nat) (a b : List UInt8) (ks : List Bool) (W : World) (ha : Sl W A0 (bvs a)) (hb : Sl W A1 (bvs b)) (hk : Sl W KA (ks.map .bool)) (hkc : ks.length ≤ kcap) (hac : a.length ≤ cap0)
    (hla : a.length ≤ 1048576) (hlb : b.length ≤ 1048576) (hlk : ks.length ≤ 1048576) :
    Ret Try.prog 8 #[.slice A0 a.length cap0, .slice A1 b.length cap1, .slice KA ks.length kcap] W fun v w' => v = .bool true ∧ Grow W w' := by
  refine Ret.enter (fn := Try.f8) (N := 125) Try.func8 rfl Try.ntmps8 rfl ?_
  repeat (first | refine WL.nil ?_ | refine WL.auto (h := ?_) | refine WL.gskip rfl rfl rfl rfl ?_ | refine WL.gauto (h := ?_) | (refine CW.seq ?_; intro K hK) | refine CW.block ?_ | refine CW.region ?_ | refine CW.skip ?_ | refine CW.exit ?_ | refine CW.ret ?_ | (refine thn_ret (K := K) ?_; clear hK K) | refine thn_ret ?_ | refine blk_ret ?_ | (refine thn_exit (K := K) ?_; clear hK K) | refine thn_exit ?_ | refine blk_here ?_ | refine blk_past rfl ?_ | refine thn_norm ?_ | refine blk_norm ?_ | refine CW.condT rfl ?_ | refine CW.condF rfl ?_ | (refine hK _ _ ?_; clear hK K))
  first | refine WL.step rfl ?_ | refine WL.gstep rfl rfl rfl rfl ?_
  refine OpW.call ((fixed31 W).mono ?_) rfl
  rintro v w1 ⟨rfl, g1⟩
  repeat (first | refine WL.nil ?_ | refine WL.auto (h := ?_) | refine WL.gskip rfl rfl rfl rfl ?_ | refine WL.gauto (h := ?_) | (refine CW.seq ?_; intro K hK) | refine CW.block ?_ | refine CW.region ?_ | refine CW.skip ?_ | refine CW.exit ?_ | refine CW.ret ?_ | (refine thn_ret (K := K) ?_; clear hK K) | refine thn_ret ?_ | refine blk_ret ?_ | (refine thn_exit (K := K) ?_; clear hK K) | refine thn_exit ?_ | refine blk_here ?_ | refine blk_past rfl ?_ | refine thn_norm ?_ | refine blk_norm ?_ | refine CW.condT rfl ?_ | refine CW.condF rfl ?_ | (refine hK _ _ ?_; clear hK K))
  first | refine WL.step rfl ?_ | refine WL.gstep rfl rfl rfl rfl ?_
  refine OpW.call ((newHD w1).mono ?_) rfl
  rintro v w2 ⟨db, rfl, h2⟩
  repeat (first | refine WL.nil ?_ | refine WL.auto (h := ?_) | refine WL.gskip rfl rfl rfl rfl ?_ | refine WL.gauto (h := ?_) | (refine CW.seq ?_; intro K hK) | refine CW.block ?_ | refine CW.region ?_ | refine CW.skip ?_ | refine CW.exit ?_ | refine CW.ret ?_ | (refine thn_ret (K := K) ?_; clear hK K) | refine thn_ret ?_ | refine blk_ret ?_ | (refine thn_exit (K := K) ?_; clear hK K) | refine thn_exit ?_ | refine blk_here ?_ | refine blk_past rfl ?_ | refine thn_norm ?_ | refine blk_norm ?_ | refine CW.condT rfl ?_ | refine CW.condF rfl ?_ | (refine hK _ _ ?_; clear hK K))
  have z1 : W.heap.size ≤ w1.heap.size := g1.size
  first | refine WL.step rfl ?_ | refine WL.gstep rfl rfl rfl rfl ?_
  refine OpW.call ((appendHD h2 (Chg.refl _ _) [120] a A0 cap0 (by decide) (by decide) (by decide) ((ha.grow g1).grow h2.g) (fun hne x hx => Or.inl (by have := ha.lt (ne_bvs hne) hx; omega)) (by omega) (by simp)).mono ?_) rfl
  rintro v w3 ⟨rfl, h3⟩
  rw [show (PD.append ⟨[], false, 0⟩ [120] a) = (0, ⟨[⟨[120], a, 0⟩], false, 0⟩) from rfl] at h3 ⊢
  repeat (first | refine WL.nil ?_ | refine WL.auto (h := ?_) | refine WL.gskip rfl rfl rfl rfl ?_ | refine WL.gauto (h := ?_) | (refine CW.seq ?_; intro K hK) | refine CW.block ?_ | refine CW.region ?_ | refine CW.skip ?_ | refine CW.exit ?_ | refine CW.ret ?_ | (refine thn_ret (K := K) ?_; clear hK K) | refine thn_ret ?_ | refine blk_ret ?_ | (refine thn_exit (K := K) ?_; clear hK K) | refine thn_exit ?_ | refine blk_here ?_ | refine blk_past rfl ?_ | refine thn_norm ?_ | refine blk_norm ?_ | refine CW.condT rfl ?_ | refine CW.condF rfl ?_ | (refine hK _ _ ?_; clear hK K))
  first | refine WL.step rfl ?_ | refine WL.gstep rfl rfl rfl rfl ?_
  refine OpW.call ((syncHD h3 [120] (Nat.zero_le _) (by simp)).mono ?_) rfl
  rintro v w4 ⟨rfl, h4⟩
  rw [show (PD.sync ⟨[⟨[120], a, 0⟩], false, 0⟩ [120]) = (0, ⟨[⟨[120], a, a.length⟩], false, 0⟩) from rfl] at h4 ⊢
  repeat (first | refine WL.nil ?_ | refine WL.auto (h := ?_) | refine WL.gskip rfl rfl rfl rfl ?_ | refine WL.gauto (h := ?_) | (refine CW.seq ?_; intro K hK) | refine CW.block ?_ | refine CW.region ?_ | refine CW.skip ?_ | refine CW.exit ?_ | refine CW.ret ?_ | (refine thn_ret (K := K) ?_; clear hK K) | refine thn_ret ?_ | refine blk_ret ?_ | (refine thn_exit (K := K) ?_; clear hK K) | refine thn_exit ?_ | refine blk_here ?_ | refine blk_past rfl ?_ | refine thn_norm ?_ | refine blk_norm ?_ | refine CW.condT rfl ?_ | refine CW.condF rfl ?_ | (refine hK _ _ ?_; clear hK K))
  first | refine WL.step rfl ?_ | refine WL.gstep rfl rfl rfl rfl ?_
  refine OpW.call ((appendHD h4 (Chg.refl _ _) [120] b A1 cap1 (Nat.zero_le _) (by simp) (by decide) ((hb.grow g1).grow h4.g) (fun hne x hx => Or.inl (by have := hb.lt (ne_bvs hne) hx; omega)) (by omega) (by simp; omega)).mono ?_) rfl
  rintro v w5 ⟨rfl, h5⟩
  rw [show (PD.append ⟨[⟨[120], a, a.length⟩], false, 0⟩ [120] b) = (0, ⟨[⟨[120], a ++ b, a.length⟩], false, 0⟩) from rfl] at h5 ⊢
  have hab : (a ++ b).length = a.length + b.length := List.length_append
  have hfl : ∀ f ∈ (⟨[⟨[120], a ++ b, a.length⟩], false, 0⟩ : PD).files, f.data.length ≤ 1099511627776 ∧ f.safe ≤ f.data.length := by
    intro f hf
    simp only [List.mem_cons, List.not_mem_nil, or_false] at hf
    subst hf
    simp only
    omega
  repeat (first | refine WL.nil ?_ | refine WL.auto (h := ?_) | refine WL.gskip rfl rfl rfl rfl ?_ | refine WL.gauto (h := ?_) | (refine CW.seq ?_; intro K hK) | refine CW.block ?_ | refine CW.region ?_ | refine CW.skip ?_ | refine CW.exit ?_ | refine CW.ret ?_ | (refine thn_ret (K := K) ?_; clear hK K) | refine thn_ret ?_ | refine blk_ret ?_ | (refine thn_exit (K := K) ?_; clear hK K) | refine thn_exit ?_ | refine blk_here ?_ | refine blk_past rfl ?_ | refine thn_norm ?_ | refine blk_norm ?_ | refine CW.condT rfl ?_ | refine CW.condF rfl ?_ | (refine hK _ _ ?_; clear hK K))
  first | refine WL.step rfl ?_ | refine WL.gstep rfl rfl rfl rfl ?_
  refine OpW.call ((crashHD h5 KA kcap ks (by simp) hfl ((hk.grow g1).grow h5.g) (by omega) hkc).mono ?_) rfl
  rintro v w6 ⟨g6, OA, cap, col, rfl, o6⟩
  obtain ⟨m1, m2, m3⟩ := crashFile_mid (f := ⟨[120], a ++ b, a.length⟩) (by simp) ks
  rw [show (crashAll [⟨[120], a ++ b, a.length⟩] ks).1 = [([120], (crashFile ⟨[120], a ++ b, a.length⟩ ks).1)] from rfl] at o6 ⊢
  generalize (crashFile ⟨[120], a ++ b, a.length⟩ ks).1 = c at *
  simp only [List.take_left', hab] at m1 m2 m3
  obtain ⟨cells, DA, q1, q2, q3, q4, q5, q6⟩ := o6.at_ (i := 0) (x := ([120], c)) rfl
  simp only at q4 q5 q6
  have h6 := h5.grow g6
  repeat (first | refine WL.nil ?_ | refine WL.auto (h := ?_) | refine WL.gskip rfl rfl rfl rfl ?_ | refine WL.gauto (h := ?_) | (refine CW.seq ?_; intro K hK) | refine CW.block ?_ | refine CW.region ?_ | refine CW.skip ?_ | refine CW.exit ?_ | refine CW.ret ?_ | (refine thn_ret (K := K) ?_; clear hK K) | refine thn_ret ?_ | refine blk_ret ?_ | (refine thn_exit (K := K) ?_; clear hK K) | refine thn_exit ?_ | refine blk_here ?_ | refine blk_past rfl ?_ | refine thn_norm ?_ | refine blk_norm ?_ | refine CW.condT rfl ?_ | refine CW.condF rfl ?_ | (refine hK _ _ ?_; clear hK K))
  refine CW.quiet rfl (by kernel_rfl) ?_
  repeat (first | refine QL.nil ?_ | refine QL.auto (hn := ?_) | refine QL.gskip rfl rfl rfl rfl ?_ | refine QL.gauto (hn := ?_))
  have q1' : ∀ w, Grow w6 w → Sl w OA cells := fun w hg => q1.grow hg
  have hlen : ¬ ((c.length : Int) < (a.length : Int)) := by omega
  have hlen2 : ¬ ((a.length : Int) + (b.length : Int) < (c.length : Int)) := by omega
  refine QL.gstep rfl rfl rfl rfl rfl (fun w hg => OpW.indexAddr 0 rfl rfl rfl (by simp) q2 q3 ⟨rfl, rfl⟩) ?_
  repeat (first | refine QL.nil ?_ | refine QL.auto (hn := ?_) | refine QL.gskip rfl rfl rfl rfl ?_ | refine QL.gauto (hn := ?_))
  rw [decide_eq_false hlen]
  repeat (first | refine QL.nil ?_ | refine QL.auto (hn := ?_) | refine QL.gskip rfl rfl rfl rfl ?_ | refine QL.gauto (hn := ?_))
  refine QL.gstep rfl rfl rfl rfl rfl (fun w hg => OpW.indexAddr 0 rfl rfl rfl (by simp) q2 q3 ⟨rfl, rfl⟩) ?_
  repeat (first | refine QL.nil ?_ | refine QL.auto (hn := ?_) | refine QL.gskip rfl rfl rfl rfl ?_ | refine QL.gauto (hn := ?_))
  rw [decide_eq_false hlen2]
  repeat (first | refine QL.nil ?_ | refine QL.auto (hn := ?_) | refine QL.gskip rfl rfl rfl rfl ?_ | refine QL.gauto (hn := ?_))
  refine QL.gstep rfl rfl rfl rfl rfl (fun w hg => OpW.indexAddr 0 rfl rfl rfl (by simp) q2 q3 ⟨rfl, rfl⟩) ?_
  repeat (first | refine QL.nil ?_ | refine QL.auto (hn := ?_) | refine QL.gskip rfl rfl rfl rfl ?_ | refine QL.gauto (hn := ?_))
  refine QL.gstep rfl rfl rfl rfl rfl (fun w hg => OpW.sliceHi a.length rfl rfl rfl (by omega) ⟨rfl, rfl⟩) ?_
  have q7 : Sl w6 DA (bvs a) := by
    have := q6.sl.take a.length
    rwa [bvs_take, m3] at this
  refine QL.gstep rfl rfl rfl rfl rfl (fun w hg => OpW.toStr rfl (q7.grow hg) rfl ⟨rfl, rfl⟩) ?_
  repeat (first | refine QL.nil ?_ | refine QL.auto (hn := ?_) | refine QL.gskip rfl rfl rfl rfl ?_ | refine QL.gauto (hn := ?_))
  have a6 : Sl w6 A0 (bvs a) := (ha.grow g1).grow h6.g
  refine QL.gstep rfl rfl rfl rfl rfl (fun w hg => OpW.toStr rfl (a6.grow hg) rfl ⟨rfl, rfl⟩) ?_
  repeat (first | refine QL.nil ?_ | refine QL.auto (hn := ?_) | refine QL.gskip rfl rfl rfl rfl ?_ | refine QL.gauto (hn := ?_))
  rw [show decide (¬ a = a) = false from by simp]
  repeat (first | refine QL.nil ?_ | refine QL.auto (hn := ?_) | refine QL.gskip rfl rfl rfl rfl ?_ | refine QL.gauto (hn := ?_))
  intro w7 g7
  have h7 := h6.grow g7
  repeat (first | refine WL.nil ?_ | refine WL.auto (h := ?_) | refine WL.gskip rfl rfl rfl rfl ?_ | refine WL.gauto (h := ?_) | (refine CW.seq ?_; intro K hK) | refine CW.block ?_ | refine CW.region ?_ | refine CW.skip ?_ | refine CW.exit ?_ | refine CW.ret ?_ | (refine thn_ret (K := K) ?_; clear hK K) | refine thn_ret ?_ | refine blk_ret ?_ | (refine thn_exit (K := K) ?_; clear hK K) | refine thn_exit ?_ | refine blk_here ?_ | refine blk_past rfl ?_ | refine thn_norm ?_ | refine blk_norm ?_ | refine CW.condT rfl ?_ | refine CW.condF rfl ?_ | (refine hK _ _ ?_; clear hK K))
  first | refine WL.step rfl ?_ | refine WL.gstep rfl rfl rfl rfl ?_
  refine OpW.makeSlice (n := b.length) rfl rfl rfl (by omega) (by omega) (fun b8 w8 n8 => ?_)
  have h8 := h7.grow n8.grow
  have o8 : Own w8 (some ⟨b8, 0, none⟩) 4 1 b.length b.length (List.replicate b.length (.bool false)) (fun k => k = b8) := by
    have h9 := Own.lit (n := b.length) (xs := List.replicate b.length (Value.bool false)) n8 (by simp) (by simp) (by unfold maxLen; omega)
    exact h9.zone fun a ha => by cases ha; rfl
  repeat (first | refine WL.nil ?_ | refine WL.auto (h := ?_) | refine WL.gskip rfl rfl rfl rfl ?_ | refine WL.gauto (h := ?_) | (refine CW.seq ?_; intro K hK) | refine CW.block ?_ | refine CW.region ?_ | refine CW.skip ?_ | refine CW.exit ?_ | refine CW.ret ?_ | (refine thn_ret (K := K) ?_; clear hK K) | refine thn_ret ?_ | refine blk_ret ?_ | (refine thn_exit (K := K) ?_; clear hK K) | refine thn_exit ?_ | refine blk_here ?_ | refine blk_past rfl ?_ | refine thn_norm ?_ | refine blk_norm ?_ | refine CW.condT rfl ?_ | refine CW.condF rfl ?_ | (refine hK _ _ ?_; clear hK K))
  refine CW.loop (fun n' e w9 => ∃ k, k ≤ b.length ∧ n' = b.length - k ∧ Chg (· = b8) w8 w9 ∧ Own w9 (some ⟨b8, 0, none⟩) 4 1 b.length b.length (List.replicate k (Value.bool true) ++ List.replicate (b.length - k) (Value.bool false)) (fun k => k = b8) ∧
    ∃ e0, e = upd (upd (upd (upd (upd (upd e0 0 (.slice A0 a.length cap0)) 1 (.slice A1 b.length cap1)) 7 (.pointer (some ⟨db, 0, none⟩))) 9 (.slice (some ⟨b8, 0, none⟩) b.length b.length)) 82 (.int .i64 b.length)) 83 (.int .i64 k)) b.length ?_ ?_
  · exact ⟨0, by omega, rfl, Chg.refl _ _, by simpa using o8, rep6 rfl rfl rfl rfl rfl rfl⟩
  rintro n' e w9 ⟨k, hk, rfl, c9, o9, e0, rfl⟩ KJ hJ
  repeat (first | refine WL.nil ?_ | refine WL.auto (h := ?_) | refine WL.gskip rfl rfl rfl rfl ?_ | refine WL.gauto (h := ?_) | (refine CW.seq ?_; intro K hK) | refine CW.block ?_ | refine CW.region ?_ | refine CW.skip ?_ | refine CW.exit ?_ | refine CW.ret ?_ | (refine thn_ret (K := K) ?_; clear hK K) | refine thn_ret ?_ | refine blk_ret ?_ | (refine thn_exit (K := K) ?_; clear hK K) | refine thn_exit ?_ | refine blk_here ?_ | refine blk_past rfl ?_ | refine thn_norm ?_ | refine blk_norm ?_ | refine CW.condT rfl ?_ | refine CW.condF rfl ?_ | (refine hK _ _ ?_; clear hK K))
  refine CW.condP rfl (fun hc => ?_) (fun hc => ?_)
  · have hkl : k < b.length := by omega
    repeat (first | refine WL.nil ?_ | refine WL.auto (h := ?_) | refine WL.gskip rfl rfl rfl rfl ?_ | refine WL.gauto (h := ?_) | (refine CW.seq ?_; intro K hK) | refine CW.block ?_ | refine CW.region ?_ | refine CW.skip ?_ | refine CW.exit ?_ | refine CW.ret ?_ | (refine thn_ret (K := K) ?_; clear hK K) | refine thn_ret ?_ | refine blk_ret ?_ | (refine thn_exit (K := K) ?_; clear hK K) | refine thn_exit ?_ | refine blk_here ?_ | refine blk_past rfl ?_ | refine thn_norm ?_ | refine blk_norm ?_ | refine CW.condT rfl ?_ | refine CW.condF rfl ?_ | (refine hK _ _ ?_; clear hK K))
    first | refine WL.step rfl ?_ | refine WL.gstep rfl rfl rfl rfl ?_
    refine OpW.indexAddr k rfl rfl rfl hkl (by simp) (spot_own o9) ?_
    repeat (first | refine WL.nil ?_ | refine WL.auto (h := ?_) | refine WL.gskip rfl rfl rfl rfl ?_ | refine WL.gauto (h := ?_) | (refine CW.seq ?_; intro K hK) | refine CW.block ?_ | refine CW.region ?_ | refine CW.skip ?_ | refine CW.exit ?_ | refine CW.ret ?_ | (refine thn_ret (K := K) ?_; clear hK K) | refine thn_ret ?_ | refine blk_ret ?_ | (refine thn_exit (K := K) ?_; clear hK K) | refine thn_exit ?_ | refine blk_here ?_ | refine blk_past rfl ?_ | refine thn_norm ?_ | refine blk_norm ?_ | refine CW.condT rfl ?_ | refine CW.condF rfl ?_ | (refine hK _ _ ?_; clear hK K))
    refine WL.step0 ?_
    refine OpW.storeOwn (v := .bool true) rfl rfl rfl o9 hkl ?_
    intro w10 o10 c10 _
    rw [vset k b.length hkl] at o10
    repeat (first | refine WL.nil ?_ | refine WL.auto (h := ?_) | refine WL.gskip rfl rfl rfl rfl ?_ | refine WL.gauto (h := ?_) | (refine CW.seq ?_; intro K hK) | refine CW.block ?_ | refine CW.region ?_ | refine CW.skip ?_ | refine CW.exit ?_ | refine CW.ret ?_ | (refine thn_ret (K := K) ?_; clear hK K) | refine thn_ret ?_ | refine blk_ret ?_ | (refine thn_exit (K := K) ?_; clear hK K) | refine thn_exit ?_ | refine blk_here ?_ | refine blk_past rfl ?_ | refine thn_norm ?_ | refine blk_norm ?_ | refine CW.condT rfl ?_ | refine CW.condF rfl ?_ | (refine hK _ _ ?_; clear hK K))
    exact hJ (b.length - (k + 1)) _ _ (by omega) ⟨k + 1, by omega, rfl, c9.andThen (c10.mono fun i _ ⟨a, ha, e⟩ => by cases ha; exact e.symm), o10, rep6 rfl rfl rfl rfl rfl (congrArg (Value.int .i64) (by omega))⟩
  · obtain rfl : k = b.length := by omega
    have gw8 := n8.grow.chgNew c9 (fun i hi e => by have := n8.fresh; omega)
    have h9 := h7.grow gw8
    have k9 : Sl w9 (some ⟨b8, 0, none⟩) ((List.replicate b.length true).map Value.bool) := by
      have := o9.sl
      simpa using this
    repeat (first | refine WL.nil ?_ | refine WL.auto (h := ?_) | refine WL.gskip rfl rfl rfl rfl ?_ | refine WL.gauto (h := ?_) | (refine CW.seq ?_; intro K hK) | refine CW.block ?_ | refine CW.region ?_ | refine CW.skip ?_ | refine CW.exit ?_ | refine CW.ret ?_ | (refine thn_ret (K := K) ?_; clear hK K) | refine thn_ret ?_ | refine blk_ret ?_ | (refine thn_exit (K := K) ?_; clear hK K) | refine thn_exit ?_ | refine blk_here ?_ | refine blk_past rfl ?_ | refine thn_norm ?_ | refine blk_norm ?_ | refine CW.condT rfl ?_ | refine CW.condF rfl ?_ | (refine hK _ _ ?_; clear hK K))
    first | refine WL.step rfl ?_ | refine WL.gstep rfl rfl rfl rfl ?_
    have hcr := crashHD h9 (some ⟨b8, 0, none⟩) b.length (List.replicate b.length true) (by simp) hfl k9 (by simp; omega) (by simp)
    rw [List.length_replicate] at hcr
    refine OpW.call (hcr.mono ?_) rfl
    rintro v w10 ⟨g10, OA2, cap2, col2, rfl, o10⟩
    have hall := crashFile_all (f := ⟨[120], a ++ b, a.length⟩) (by simp)
    rw [show (⟨[120], a ++ b, a.length⟩ : PF).data.length - (⟨[120], a ++ b, a.length⟩ : PF).safe = b.length from by simp] at hall
    rw [show (crashAll [⟨[120], a ++ b, a.length⟩] (List.replicate b.length true)).1 = [([120], (crashFile ⟨[120], a ++ b, a.length⟩ (List.replicate b.length true)).1)] from rfl, hall] at o10 ⊢
    obtain ⟨cells2, DA2, p1, p2, p3, p4, p5, p6⟩ := o10.at_ (i := 0) (x := ([120], a ++ b)) rfl
    simp only at p4 p5 p6
    have h10 := h9.grow g10
    repeat (first | refine WL.nil ?_ | refine WL.auto (h := ?_) | refine WL.gskip rfl rfl rfl rfl ?_ | refine WL.gauto (h := ?_) | (refine CW.seq ?_; intro K hK) | refine CW.block ?_ | refine CW.region ?_ | refine CW.skip ?_ | refine CW.exit ?_ | refine CW.ret ?_ | (refine thn_ret (K := K) ?_; clear hK K) | refine thn_ret ?_ | refine blk_ret ?_ | (refine thn_exit (K := K) ?_; clear hK K) | refine thn_exit ?_ | refine blk_here ?_ | refine blk_past rfl ?_ | refine thn_norm ?_ | refine blk_norm ?_ | refine CW.condT rfl ?_ | refine CW.condF rfl ?_ | (refine hK _ _ ?_; clear hK K))
    first | refine WL.step rfl ?_ | refine WL.gstep rfl rfl rfl rfl ?_
    refine OpW.call ((readHD h10 [120] (by simp) (fun f hf => (hfl f hf).1)).mono ?_) rfl
    rintro v w11 ⟨g11, A11, c11, rfl, o11⟩
    rw [show (PD.read ⟨[⟨[120], a ++ b, a.length⟩], false, 0⟩ [120]) = (a ++ b, 0) from rfl] at o11 ⊢
    simp only at o11
    replace p1 := p1.grow g11
    replace p6 := p6.grow g11
    have h11 := h10.grow g11
    repeat (first | refine WL.nil ?_ | refine WL.auto (h := ?_) | refine WL.gskip rfl rfl rfl rfl ?_ | refine WL.gauto (h := ?_) | (refine CW.seq ?_; intro K hK) | refine CW.block ?_ | refine CW.region ?_ | refine CW.skip ?_ | refine CW.exit ?_ | refine CW.ret ?_ | (refine thn_ret (K := K) ?_; clear hK K) | refine thn_ret ?_ | refine blk_ret ?_ | (refine thn_exit (K := K) ?_; clear hK K) | refine thn_exit ?_ | refine blk_here ?_ | refine blk_past rfl ?_ | refine thn_norm ?_ | refine blk_norm ?_ | refine CW.condT rfl ?_ | refine CW.condF rfl ?_ | (refine hK _ _ ?_; clear hK K))
    refine CW.quiet rfl (by kernel_rfl) ?_
    repeat (first | refine QL.nil ?_ | refine QL.auto (hn := ?_) | refine QL.gskip rfl rfl rfl rfl ?_ | refine QL.gauto (hn := ?_))
    refine QL.gstep rfl rfl rfl rfl rfl (fun w hg => OpW.indexAddr 0 rfl rfl rfl (by simp) p2 p3 ⟨rfl, rfl⟩) ?_
    have p1' : ∀ w, Grow w11 w → Sl w OA2 cells2 := fun w hg => p1.grow hg
    repeat (first | refine QL.nil ?_ | refine QL.auto (hn := ?_) | refine QL.gskip rfl rfl rfl rfl ?_ | refine QL.gauto (hn := ?_))
    refine QL.gstep rfl rfl rfl rfl rfl (fun w hg => OpW.toStr rfl (p6.sl.grow hg) rfl ⟨rfl, rfl⟩) ?_
    repeat (first | refine QL.nil ?_ | refine QL.auto (hn := ?_) | refine QL.gskip rfl rfl rfl rfl ?_ | refine QL.gauto (hn := ?_))
    refine QL.gstep rfl rfl rfl rfl rfl (fun w hg => OpW.toStr rfl (o11.sl.grow hg) rfl ⟨rfl, rfl⟩) ?_
    repeat (first | refine QL.nil ?_ | refine QL.auto (hn := ?_) | refine QL.gskip rfl rfl rfl rfl ?_ | refine QL.gauto (hn := ?_))
    rw [show decide (a ++ b = a ++ b) = true from by simp]
    repeat (first | refine QL.nil ?_ | refine QL.auto (hn := ?_) | refine QL.gskip rfl rfl rfl rfl ?_ | refine QL.gauto (hn := ?_))
    refine QL.gstep rfl rfl rfl rfl rfl (fun w hg => OpW.toStr rfl (o11.sl.grow hg) rfl ⟨rfl, rfl⟩) ?_
    repeat (first | refine QL.nil ?_ | refine QL.auto (hn := ?_) | refine QL.gskip rfl rfl rfl rfl ?_ | refine QL.gauto (hn := ?_))
    refine QL.gstep rfl rfl rfl rfl rfl (fun w hg => OpW.toStr rfl (((ha.grow g1).grow h11.g).grow hg) rfl ⟨rfl, rfl⟩) ?_
    repeat (first | refine QL.nil ?_ | refine QL.auto (hn := ?_) | refine QL.gskip rfl rfl rfl rfl ?_ | refine QL.gauto (hn := ?_))
    refine QL.gstep rfl rfl rfl rfl rfl (fun w hg => OpW.toStr rfl (((hb.grow g1).grow h11.g).grow hg) rfl ⟨rfl, rfl⟩) ?_
    repeat (first | refine QL.nil ?_ | refine QL.auto (hn := ?_) | refine QL.gskip rfl rfl rfl rfl ?_ | refine QL.gauto (hn := ?_))
    rw [show decide (a ++ b = a ++ b) = true from by simp]
    repeat (first | refine QL.nil ?_ | refine QL.auto (hn := ?_) | refine QL.gskip rfl rfl rfl rfl ?_ | refine QL.gauto (hn := ?_))
    intro w12 g12
    repeat (first | refine WL.nil ?_ | refine WL.auto (h := ?_) | refine WL.gskip rfl rfl rfl rfl ?_ | refine WL.gauto (h := ?_) | (refine CW.seq ?_; intro K hK) | refine CW.block ?_ | refine CW.region ?_ | refine CW.skip ?_ | refine CW.exit ?_ | refine CW.ret ?_ | (refine thn_ret (K := K) ?_; clear hK K) | refine thn_ret ?_ | refine blk_ret ?_ | (refine thn_exit (K := K) ?_; clear hK K) | refine thn_exit ?_ | refine blk_here ?_ | refine blk_past rfl ?_ | refine thn_norm ?_ | refine blk_norm ?_ | refine CW.condT rfl ?_ | refine CW.condF rfl ?_ | (refine hK _ _ ?_; clear hK K))
    exact out1 (v := .bool true) Try.results8 rfl ⟨rfl, g1.then (h11.g.then g12)⟩ (Or.inr rfl)
end B
end Go.Proofs.Ytlofcomnhecgfaa
