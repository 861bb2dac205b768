/- The walk of one law, put together out of smaller texts. Sizes are bounded. -/
import Derived.Test.YtlofcomnhecgfaaLibF
/- The walk of isthmuslaw06.DiskSafe: it is true. Sizes are bounded. -/
namespace Go.Proofs.Ytlofcomnhecgfaa
namespace B
attribute [local irreducible] OpW WL CW Ret Sl Blk thn blk outOf
set_option linter.unusedVariables false
set_option linter.unusedSimpArgs false
set_option maxRecDepth 4000

theorem crash_prefix {f : PF} {ks : List Bool} {k : Nat} (h : f.safe + k ≤ f.data.length) : (crashRun f ks k).1.take f.safe = f.data.take f.safe := by
  induction k with
  | zero => simp [crashRun, List.take_take]
  | succ k ih =>
    have h1 := ih (by omega)
    have h2 := (crashRun_len (f := f) (ks := ks) (k := k) (by omega)).1
    rw [crashRun_step (by omega)]
    unfold crashStep
    split <;> rw [List.take_append_of_le_length (l₁ := (crashRun f ks k).1) (by omega)] <;> exact h1
theorem crash_all {f : PF} {m : Nat} : ∀ k, k ≤ m → f.safe + k ≤ f.data.length → crashRun f (List.replicate m true) k = (f.data.take (f.safe + k), f.safe + k, List.replicate (m - k) true) := by
  intro k
  induction k with
  | zero => intro _ _; simp [crashRun]
  | succ k ih =>
    intro h1 h2
    rw [crashRun_step (by omega), ih (by omega) (by omega)]
    have h3 : List.replicate (m - k) true = true :: List.replicate (m - (k + 1)) true := by
      rw [show m - k = (m - (k + 1)) + 1 from by omega, List.replicate_succ]
    rw [h3]
    have h4 : f.data.take (f.safe + (k + 1)) = f.data.take (f.safe + k) ++ [f.data[f.safe + k]] := by
      rw [show f.safe + (k + 1) = f.safe + k + 1 from rfl, List.take_succ_eq_append_getElem (by omega)]
    simp only [crashStep, h4]
    rw [List.length_take, Nat.min_eq_left (by omega)]
    rfl
theorem crashFile_all {f : PF} (h : f.safe ≤ f.data.length) : (crashFile f (List.replicate (f.data.length - f.safe) true)).1 = f.data := by
  unfold crashFile
  rw [crash_all _ (Nat.le_refl _) (by omega)]
  simp only
  rw [show f.safe + (f.data.length - f.safe) = f.data.length from by omega]
  simp
theorem crashFile_mid {f : PF} (h : f.safe ≤ f.data.length) (ks : List Bool) : f.safe ≤ (crashFile f ks).1.length ∧ (crashFile f ks).1.length ≤ f.data.length ∧ (crashFile f ks).1.take f.safe = f.data.take f.safe := by
  have h1 := crashRun_len (f := f) (ks := ks) (k := f.data.length - f.safe) (by omega)
  have h2 := crash_prefix (f := f) (ks := ks) (k := f.data.length - f.safe) (by omega)
  unfold crashFile
  simp only
  refine ⟨by rw [List.length_take]; omega, by rw [List.length_take]; omega, ?_⟩
  rw [List.take_take, Nat.min_eq_left h1.2.1, h2]

theorem vset (k n : Nat) (h : k < n) : (List.replicate k (Value.bool true) ++ List.replicate (n - k) (Value.bool false)).set k (.bool true) = List.replicate (k + 1) (Value.bool true) ++ List.replicate (n - (k + 1)) (Value.bool false) := by
  rw [show n - k = (n - (k + 1)) + 1 from by omega, List.replicate_succ, List.set_append_right (h := by simp)]
  simp [List.replicate_succ']

theorem safe8 (A0 A1 KA : Option Addr) (cap0 cap1 kcap : Nat) (a b : List UInt8) (ks : List Bool) (W : World) (ha : Sl W A0 (bvs a)) (hb : Sl W A1 (bvs b)) (hk : Sl W KA (ks.map .bool)) (hkc : ks.length ≤ kcap) (hac : a.length ≤ cap0)
    (hla : a.length ≤ 1048576) (hlb : b.length ≤ 1048576) (hlk : ks.length ≤ 1048576) :
    Ret Try.prog 8 #[.slice A0 a.length cap0, .slice A1 b.length cap1, .slice KA ks.length kcap] W fun v w' => v = .bool true ∧ Grow W w' := by
  refine Ret.enter (fn := Try.f8) (N := 125) Try.func8 rfl Try.ntmps8 rfl ?_
  repeat (first | refine WL.nil ?_ | refine WL.auto (h := ?_) | refine WL.gskip rfl rfl rfl rfl ?_ | refine WL.gauto (h := ?_) | (refine CW.seq ?_; intro K hK) | refine CW.block ?_ | refine CW.region ?_ | refine CW.skip ?_ | refine CW.exit ?_ | refine CW.ret ?_ | (refine thn_ret (K := K) ?_; clear hK K) | refine thn_ret ?_ | refine blk_ret ?_ | (refine thn_exit (K := K) ?_; clear hK K) | refine thn_exit ?_ | refine blk_here ?_ | refine blk_past rfl ?_ | refine thn_norm ?_ | refine blk_norm ?_ | refine CW.condT rfl ?_ | refine CW.condF rfl ?_ | (refine hK _ _ ?_; clear hK K))
  first | refine WL.step rfl ?_ | refine WL.gstep rfl rfl rfl rfl ?_
  refine OpW.call ((fixed31 W).mono ?_) rfl
  rintro v w1 ⟨rfl, g1⟩
  repeat (first | refine WL.nil ?_ | refine WL.auto (h := ?_) | refine WL.gskip rfl rfl rfl rfl ?_ | refine WL.gauto (h := ?_) | (refine CW.seq ?_; intro K hK) | refine CW.block ?_ | refine CW.region ?_ | refine CW.skip ?_ | refine CW.exit ?_ | refine CW.ret ?_ | (refine thn_ret (K := K) ?_; clear hK K) | refine thn_ret ?_ | refine blk_ret ?_ | (refine thn_exit (K := K) ?_; clear hK K) | refine thn_exit ?_ | refine blk_here ?_ | refine blk_past rfl ?_ | refine thn_norm ?_ | refine blk_norm ?_ | refine CW.condT rfl ?_ | refine CW.condF rfl ?_ | (refine hK _ _ ?_; clear hK K))
  first | refine WL.step rfl ?_ | refine WL.gstep rfl rfl rfl rfl ?_
  refine OpW.call ((newHD w1).mono ?_) rfl
  rintro v w2 ⟨db, rfl, h2⟩
  repeat (first | refine WL.nil ?_ | refine WL.auto (h := ?_) | refine WL.gskip rfl rfl rfl rfl ?_ | refine WL.gauto (h := ?_) | (refine CW.seq ?_; intro K hK) | refine CW.block ?_ | refine CW.region ?_ | refine CW.skip ?_ | refine CW.exit ?_ | refine CW.ret ?_ | (refine thn_ret (K := K) ?_; clear hK K) | refine thn_ret ?_ | refine blk_ret ?_ | (refine thn_exit (K := K) ?_; clear hK K) | refine thn_exit ?_ | refine blk_here ?_ | refine blk_past rfl ?_ | refine thn_norm ?_ | refine blk_norm ?_ | refine CW.condT rfl ?_ | refine CW.condF rfl ?_ | (refine hK _ _ ?_; clear hK K))
  have z1 : W.heap.size ≤ w1.heap.size := g1.size
  first | refine WL.step rfl ?_ | refine WL.gstep rfl rfl rfl rfl ?_
  refine OpW.call ((appendHD h2 (Chg.refl _ _) [120] a A0 cap0 (by decide) (by decide) (by decide) ((ha.grow g1).grow h2.g) (fun hne x hx => Or.inl (by have := ha.lt (ne_bvs hne) hx; omega)) (by omega) (by simp)).mono ?_) rfl
  rintro v w3 ⟨rfl, h3⟩
  rw [show (PD.append ⟨[], false, 0⟩ [120] a) = (0, ⟨[⟨[120], a, 0⟩], false, 0⟩) from rfl] at h3 ⊢
  repeat (first | refine WL.nil ?_ | refine WL.auto (h := ?_) | refine WL.gskip rfl rfl rfl rfl ?_ | refine WL.gauto (h := ?_) | (refine CW.seq ?_; intro K hK) | refine CW.block ?_ | refine CW.region ?_ | refine CW.skip ?_ | refine CW.exit ?_ | refine CW.ret ?_ | (refine thn_ret (K := K) ?_; clear hK K) | refine thn_ret ?_ | refine blk_ret ?_ | (refine thn_exit (K := K) ?_; clear hK K) | refine thn_exit ?_ | refine blk_here ?_ | refine blk_past rfl ?_ | refine thn_norm ?_ | refine blk_norm ?_ | refine CW.condT rfl ?_ | refine CW.condF rfl ?_ | (refine hK _ _ ?_; clear hK K))
  first | refine WL.step rfl ?_ | refine WL.gstep rfl rfl rfl rfl ?_
  refine OpW.call ((syncHD h3 [120] (Nat.zero_le _) (by simp)).mono ?_) rfl
  rintro v w4 ⟨rfl, h4⟩
  rw [show (PD.sync ⟨[⟨[120], a, 0⟩], false, 0⟩ [120]) = (0, ⟨[⟨[120], a, a.length⟩], false, 0⟩) from rfl] at h4 ⊢
  repeat (first | refine WL.nil ?_ | refine WL.auto (h := ?_) | refine WL.gskip rfl rfl rfl rfl ?_ | refine WL.gauto (h := ?_) | (refine CW.seq ?_; intro K hK) | refine CW.block ?_ | refine CW.region ?_ | refine CW.skip ?_ | refine CW.exit ?_ | refine CW.ret ?_ | (refine thn_ret (K := K) ?_; clear hK K) | refine thn_ret ?_ | refine blk_ret ?_ | (refine thn_exit (K := K) ?_; clear hK K) | refine thn_exit ?_ | refine blk_here ?_ | refine blk_past rfl ?_ | refine thn_norm ?_ | refine blk_norm ?_ | refine CW.condT rfl ?_ | refine CW.condF rfl ?_ | (refine hK _ _ ?_; clear hK K))
  first | refine WL.step rfl ?_ | refine WL.gstep rfl rfl rfl rfl ?_
  refine OpW.call ((appendHD h4 (Chg.refl _ _) [120] b A1 cap1 (Nat.zero_le _) (by simp) (by decide) ((hb.grow g1).grow h4.g) (fun hne x hx => Or.inl (by have := hb.lt (ne_bvs hne) hx; omega)) (by omega) (by simp; omega)).mono ?_) rfl
  rintro v w5 ⟨rfl, h5⟩
  rw [show (PD.append ⟨[⟨[120], a, a.length⟩], false, 0⟩ [120] b) = (0, ⟨[⟨[120], a ++ b, a.length⟩], false, 0⟩) from rfl] at h5 ⊢
  have hab : (a ++ b).length = a.length + b.length := List.length_append
  have hfl : ∀ f ∈ (⟨[⟨[120], a ++ b, a.length⟩], false, 0⟩ : PD).files, f.data.length ≤ 1099511627776 ∧ f.safe ≤ f.data.length := by
    intro f hf
    simp only [List.mem_cons, List.not_mem_nil, or_false] at hf
    subst hf
    simp only
    omega
  repeat (first | refine WL.nil ?_ | refine WL.auto (h := ?_) | refine WL.gskip rfl rfl rfl rfl ?_ | refine WL.gauto (h := ?_) | (refine CW.seq ?_; intro K hK) | refine CW.block ?_ | refine CW.region ?_ | refine CW.skip ?_ | refine CW.exit ?_ | refine CW.ret ?_ | (refine thn_ret (K := K) ?_; clear hK K) | refine thn_ret ?_ | refine blk_ret ?_ | (refine thn_exit (K := K) ?_; clear hK K) | refine thn_exit ?_ | refine blk_here ?_ | refine blk_past rfl ?_ | refine thn_norm ?_ | refine blk_norm ?_ | refine CW.condT rfl ?_ | refine CW.condF rfl ?_ | (refine hK _ _ ?_; clear hK K))
  first | refine WL.step rfl ?_ | refine WL.gstep rfl rfl rfl rfl ?_
  refine OpW.call ((crashHD h5 KA kcap ks (by simp) hfl ((hk.grow g1).grow h5.g) (by omega) hkc).mono ?_) rfl
  rintro v w6 ⟨g6, OA, cap, col, rfl, o6⟩
  obtain ⟨m1, m2, m3⟩ := crashFile_mid (f := ⟨[120], a ++ b, a.length⟩) (by simp) ks
  rw [show (crashAll [⟨[120], a ++ b, a.length⟩] ks).1 = [([120], (crashFile ⟨[120], a ++ b, a.length⟩ ks).1)] from rfl] at o6 ⊢
  generalize (crashFile ⟨[120], a ++ b, a.length⟩ ks).1 = c at *
  simp only [List.take_left', hab] at m1 m2 m3
  obtain ⟨cells, DA, q1, q2, q3, q4, q5, q6⟩ := o6.at_ (i := 0) (x := ([120], c)) rfl
  simp only at q4 q5 q6
  have h6 := h5.grow g6
  repeat (first | refine WL.nil ?_ | refine WL.auto (h := ?_) | refine WL.gskip rfl rfl rfl rfl ?_ | refine WL.gauto (h := ?_) | (refine CW.seq ?_; intro K hK) | refine CW.block ?_ | refine CW.region ?_ | refine CW.skip ?_ | refine CW.exit ?_ | refine CW.ret ?_ | (refine thn_ret (K := K) ?_; clear hK K) | refine thn_ret ?_ | refine blk_ret ?_ | (refine thn_exit (K := K) ?_; clear hK K) | refine thn_exit ?_ | refine blk_here ?_ | refine blk_past rfl ?_ | refine thn_norm ?_ | refine blk_norm ?_ | refine CW.condT rfl ?_ | refine CW.condF rfl ?_ | (refine hK _ _ ?_; clear hK K))
  refine CW.quiet rfl (by kernel_rfl) ?_
  repeat (first | refine QL.nil ?_ | refine QL.auto (hn := ?_) | refine QL.gskip rfl rfl rfl rfl ?_ | refine QL.gauto (hn := ?_))
  have q1' : ∀ w, Grow w6 w → Sl w OA cells := fun w hg => q1.grow hg
  have hlen : ¬ ((c.length : Int) < (a.length : Int)) := by omega
  have hlen2 : ¬ ((a.length : Int) + (b.length : Int) < (c.length : Int)) := by omega
  refine QL.gstep rfl rfl rfl rfl rfl (fun w hg => OpW.indexAddr 0 rfl rfl rfl (by simp) q2 q3 ⟨rfl, rfl⟩) ?_
  repeat (first | refine QL.nil ?_ | refine QL.auto (hn := ?_) | refine QL.gskip rfl rfl rfl rfl ?_ | refine QL.gauto (hn := ?_))
  rw [decide_eq_false hlen]
  repeat (first | refine QL.nil ?_ | refine QL.auto (hn := ?_) | refine QL.gskip rfl rfl rfl rfl ?_ | refine QL.gauto (hn := ?_))
  refine QL.gstep rfl rfl rfl rfl rfl (fun w hg => OpW.indexAddr 0 rfl rfl rfl (by simp) q2 q3 ⟨rfl, rfl⟩) ?_
  repeat (first | refine QL.nil ?_ | refine QL.auto (hn := ?_) | refine QL.gskip rfl rfl rfl rfl ?_ | refine QL.gauto (hn := ?_))
  rw [decide_eq_false hlen2]
  repeat (first | refine QL.nil ?_ | refine QL.auto (hn := ?_) | refine QL.gskip rfl rfl rfl rfl ?_ | refine QL.gauto (hn := ?_))
  refine QL.gstep rfl rfl rfl rfl rfl (fun w hg => OpW.indexAddr 0 rfl rfl rfl (by simp) q2 q3 ⟨rfl, rfl⟩) ?_
  repeat (first | refine QL.nil ?_ | refine QL.auto (hn := ?_) | refine QL.gskip rfl rfl rfl rfl ?_ | refine QL.gauto (hn := ?_))
  refine QL.gstep rfl rfl rfl rfl rfl (fun w hg => OpW.sliceHi a.length rfl rfl rfl (by omega) ⟨rfl, rfl⟩) ?_
  have q7 : Sl w6 DA (bvs a) := by
    have := q6.sl.take a.length
    rwa [bvs_take, m3] at this
  refine QL.gstep rfl rfl rfl rfl rfl (fun w hg => OpW.toStr rfl (q7.grow hg) rfl ⟨rfl, rfl⟩) ?_
  repeat (first | refine QL.nil ?_ | refine QL.auto (hn := ?_) | refine QL.gskip rfl rfl rfl rfl ?_ | refine QL.gauto (hn := ?_))
  have a6 : Sl w6 A0 (bvs a) := (ha.grow g1).grow h6.g
  refine QL.gstep rfl rfl rfl rfl rfl (fun w hg => OpW.toStr rfl (a6.grow hg) rfl ⟨rfl, rfl⟩) ?_
  repeat (first | refine QL.nil ?_ | refine QL.auto (hn := ?_) | refine QL.gskip rfl rfl rfl rfl ?_ | refine QL.gauto (hn := ?_))
  rw [show decide (¬ a = a) = false from by simp]
  repeat (first | refine QL.nil ?_ | refine QL.auto (hn := ?_) | refine QL.gskip rfl rfl rfl rfl ?_ | refine QL.gauto (hn := ?_))
  intro w7 g7
  have h7 := h6.grow g7
  repeat (first | refine WL.nil ?_ | refine WL.auto (h := ?_) | refine WL.gskip rfl rfl rfl rfl ?_ | refine WL.gauto (h := ?_) | (refine CW.seq ?_; intro K hK) | refine CW.block ?_ | refine CW.region ?_ | refine CW.skip ?_ | refine CW.exit ?_ | refine CW.ret ?_ | (refine thn_ret (K := K) ?_; clear hK K) | refine thn_ret ?_ | refine blk_ret ?_ | (refine thn_exit (K := K) ?_; clear hK K) | refine thn_exit ?_ | refine blk_here ?_ | refine blk_past rfl ?_ | refine thn_norm ?_ | refine blk_norm ?_ | refine CW.condT rfl ?_ | refine CW.condF rfl ?_ | (refine hK _ _ ?_; clear hK K))
  first | refine WL.step rfl ?_ | refine WL.gstep rfl rfl rfl rfl ?_
  refine OpW.makeSlice (n := b.length) rfl rfl rfl (by omega) (by omega) (fun b8 w8 n8 => ?_)
  have h8 := h7.grow n8.grow
  have o8 : Own w8 (some ⟨b8, 0, none⟩) 4 1 b.length b.length (List.replicate b.length (.bool false)) (fun k => k = b8) := by
    have h9 := Own.lit (n := b.length) (xs := List.replicate b.length (Value.bool false)) n8 (by simp) (by simp) (by unfold maxLen; omega)
    exact h9.zone fun a ha => by cases ha; rfl
  repeat (first | refine WL.nil ?_ | refine WL.auto (h := ?_) | refine WL.gskip rfl rfl rfl rfl ?_ | refine WL.gauto (h := ?_) | (refine CW.seq ?_; intro K hK) | refine CW.block ?_ | refine CW.region ?_ | refine CW.skip ?_ | refine CW.exit ?_ | refine CW.ret ?_ | (refine thn_ret (K := K) ?_; clear hK K) | refine thn_ret ?_ | refine blk_ret ?_ | (refine thn_exit (K := K) ?_; clear hK K) | refine thn_exit ?_ | refine blk_here ?_ | refine blk_past rfl ?_ | refine thn_norm ?_ | refine blk_norm ?_ | refine CW.condT rfl ?_ | refine CW.condF rfl ?_ | (refine hK _ _ ?_; clear hK K))
  refine CW.loop (fun n' e w9 => ∃ k, k ≤ b.length ∧ n' = b.length - k ∧ Chg (· = b8) w8 w9 ∧ Own w9 (some ⟨b8, 0, none⟩) 4 1 b.length b.length (List.replicate k (Value.bool true) ++ List.replicate (b.length - k) (Value.bool false)) (fun k => k = b8) ∧
    ∃ e0, e = upd (upd (upd (upd (upd (upd e0 0 (.slice A0 a.length cap0)) 1 (.slice A1 b.length cap1)) 7 (.pointer (some ⟨db, 0, none⟩))) 9 (.slice (some ⟨b8, 0, none⟩) b.length b.length)) 82 (.int .i64 b.length)) 83 (.int .i64 k)) b.length ?_ ?_
  · exact ⟨0, by omega, rfl, Chg.refl _ _, by simpa using o8, rep6 rfl rfl rfl rfl rfl rfl⟩
  rintro n' e w9 ⟨k, hk, rfl, c9, o9, e0, rfl⟩ KJ hJ
  repeat (first | refine WL.nil ?_ | refine WL.auto (h := ?_) | refine WL.gskip rfl rfl rfl rfl ?_ | refine WL.gauto (h := ?_) | (refine CW.seq ?_; intro K hK) | refine CW.block ?_ | refine CW.region ?_ | refine CW.skip ?_ | refine CW.exit ?_ | refine CW.ret ?_ | (refine thn_ret (K := K) ?_; clear hK K) | refine thn_ret ?_ | refine blk_ret ?_ | (refine thn_exit (K := K) ?_; clear hK K) | refine thn_exit ?_ | refine blk_here ?_ | refine blk_past rfl ?_ | refine thn_norm ?_ | refine blk_norm ?_ | refine CW.condT rfl ?_ | refine CW.condF rfl ?_ | (refine hK _ _ ?_; clear hK K))
  refine CW.condP rfl (fun hc => ?_) (fun hc => ?_)
  · have hkl : k < b.length := by omega
    repeat (first | refine WL.nil ?_ | refine WL.auto (h := ?_) | refine WL.gskip rfl rfl rfl rfl ?_ | refine WL.gauto (h := ?_) | (refine CW.seq ?_; intro K hK) | refine CW.block ?_ | refine CW.region ?_ | refine CW.skip ?_ | refine CW.exit ?_ | refine CW.ret ?_ | (refine thn_ret (K := K) ?_; clear hK K) | refine thn_ret ?_ | refine blk_ret ?_ | (refine thn_exit (K := K) ?_; clear hK K) | refine thn_exit ?_ | refine blk_here ?_ | refine blk_past rfl ?_ | refine thn_norm ?_ | refine blk_norm ?_ | refine CW.condT rfl ?_ | refine CW.condF rfl ?_ | (refine hK _ _ ?_; clear hK K))
    first | refine WL.step rfl ?_ | refine WL.gstep rfl rfl rfl rfl ?_
    refine OpW.indexAddr k rfl rfl rfl hkl (by simp) (spot_own o9) ?_
    repeat (first | refine WL.nil ?_ | refine WL.auto (h := ?_) | refine WL.gskip rfl rfl rfl rfl ?_ | refine WL.gauto (h := ?_) | (refine CW.seq ?_; intro K hK) | refine CW.block ?_ | refine CW.region ?_ | refine CW.skip ?_ | refine CW.exit ?_ | refine CW.ret ?_ | (refine thn_ret (K := K) ?_; clear hK K) | refine thn_ret ?_ | refine blk_ret ?_ | (refine thn_exit (K := K) ?_; clear hK K) | refine thn_exit ?_ | refine blk_here ?_ | refine blk_past rfl ?_ | refine thn_norm ?_ | refine blk_norm ?_ | refine CW.condT rfl ?_ | refine CW.condF rfl ?_ | (refine hK _ _ ?_; clear hK K))
    refine WL.step0 ?_
    refine OpW.storeOwn (v := .bool true) rfl rfl rfl o9 hkl ?_
    intro w10 o10 c10 _
    rw [vset k b.length hkl] at o10
    repeat (first | refine WL.nil ?_ | refine WL.auto (h := ?_) | refine WL.gskip rfl rfl rfl rfl ?_ | refine WL.gauto (h := ?_) | (refine CW.seq ?_; intro K hK) | refine CW.block ?_ | refine CW.region ?_ | refine CW.skip ?_ | refine CW.exit ?_ | refine CW.ret ?_ | (refine thn_ret (K := K) ?_; clear hK K) | refine thn_ret ?_ | refine blk_ret ?_ | (refine thn_exit (K := K) ?_; clear hK K) | refine thn_exit ?_ | refine blk_here ?_ | refine blk_past rfl ?_ | refine thn_norm ?_ | refine blk_norm ?_ | refine CW.condT rfl ?_ | refine CW.condF rfl ?_ | (refine hK _ _ ?_; clear hK K))
    exact hJ (b.length - (k + 1)) _ _ (by omega) ⟨k + 1, by omega, rfl, c9.andThen (c10.mono fun i _ ⟨a, ha, e⟩ => by cases ha; exact e.symm), o10, rep6 rfl rfl rfl rfl rfl (congrArg (Value.int .i64) (by omega))⟩
  · obtain rfl : k = b.length := by omega
    have gw8 := n8.grow.chgNew c9 (fun i hi e => by have := n8.fresh; omega)
    have h9 := h7.grow gw8
    have k9 : Sl w9 (some ⟨b8, 0, none⟩) ((List.replicate b.length true).map Value.bool) := by
      have := o9.sl
      simpa using this
    repeat (first | refine WL.nil ?_ | refine WL.auto (h := ?_) | refine WL.gskip rfl rfl rfl rfl ?_ | refine WL.gauto (h := ?_) | (refine CW.seq ?_; intro K hK) | refine CW.block ?_ | refine CW.region ?_ | refine CW.skip ?_ | refine CW.exit ?_ | refine CW.ret ?_ | (refine thn_ret (K := K) ?_; clear hK K) | refine thn_ret ?_ | refine blk_ret ?_ | (refine thn_exit (K := K) ?_; clear hK K) | refine thn_exit ?_ | refine blk_here ?_ | refine blk_past rfl ?_ | refine thn_norm ?_ | refine blk_norm ?_ | refine CW.condT rfl ?_ | refine CW.condF rfl ?_ | (refine hK _ _ ?_; clear hK K))
    first | refine WL.step rfl ?_ | refine WL.gstep rfl rfl rfl rfl ?_
    have hcr := crashHD h9 (some ⟨b8, 0, none⟩) b.length (List.replicate b.length true) (by simp) hfl k9 (by simp; omega) (by simp)
    rw [List.length_replicate] at hcr
    refine OpW.call (hcr.mono ?_) rfl
    rintro v w10 ⟨g10, OA2, cap2, col2, rfl, o10⟩
    have hall := crashFile_all (f := ⟨[120], a ++ b, a.length⟩) (by simp)
    rw [show (⟨[120], a ++ b, a.length⟩ : PF).data.length - (⟨[120], a ++ b, a.length⟩ : PF).safe = b.length from by simp] at hall
    rw [show (crashAll [⟨[120], a ++ b, a.length⟩] (List.replicate b.length true)).1 = [([120], (crashFile ⟨[120], a ++ b, a.length⟩ (List.replicate b.length true)).1)] from rfl, hall] at o10 ⊢
    obtain ⟨cells2, DA2, p1, p2, p3, p4, p5, p6⟩ := o10.at_ (i := 0) (x := ([120], a ++ b)) rfl
    simp only at p4 p5 p6
    have h10 := h9.grow g10
    repeat (first | refine WL.nil ?_ | refine WL.auto (h := ?_) | refine WL.gskip rfl rfl rfl rfl ?_ | refine WL.gauto (h := ?_) | (refine CW.seq ?_; intro K hK) | refine CW.block ?_ | refine CW.region ?_ | refine CW.skip ?_ | refine CW.exit ?_ | refine CW.ret ?_ | (refine thn_ret (K := K) ?_; clear hK K) | refine thn_ret ?_ | refine blk_ret ?_ | (refine thn_exit (K := K) ?_; clear hK K) | refine thn_exit ?_ | refine blk_here ?_ | refine blk_past rfl ?_ | refine thn_norm ?_ | refine blk_norm ?_ | refine CW.condT rfl ?_ | refine CW.condF rfl ?_ | (refine hK _ _ ?_; clear hK K))
    first | refine WL.step rfl ?_ | refine WL.gstep rfl rfl rfl rfl ?_
    refine OpW.call ((readHD h10 [120] (by simp) (fun f hf => (hfl f hf).1)).mono ?_) rfl
    rintro v w11 ⟨g11, A11, c11, rfl, o11⟩
    rw [show (PD.read ⟨[⟨[120], a ++ b, a.length⟩], false, 0⟩ [120]) = (a ++ b, 0) from rfl] at o11 ⊢
    simp only at o11
    replace p1 := p1.grow g11
    replace p6 := p6.grow g11
    have h11 := h10.grow g11
    repeat (first | refine WL.nil ?_ | refine WL.auto (h := ?_) | refine WL.gskip rfl rfl rfl rfl ?_ | refine WL.gauto (h := ?_) | (refine CW.seq ?_; intro K hK) | refine CW.block ?_ | refine CW.region ?_ | refine CW.skip ?_ | refine CW.exit ?_ | refine CW.ret ?_ | (refine thn_ret (K := K) ?_; clear hK K) | refine thn_ret ?_ | refine blk_ret ?_ | (refine thn_exit (K := K) ?_; clear hK K) | refine thn_exit ?_ | refine blk_here ?_ | refine blk_past rfl ?_ | refine thn_norm ?_ | refine blk_norm ?_ | refine CW.condT rfl ?_ | refine CW.condF rfl ?_ | (refine hK _ _ ?_; clear hK K))
    refine CW.quiet rfl (by kernel_rfl) ?_
    repeat (first | refine QL.nil ?_ | refine QL.auto (hn := ?_) | refine QL.gskip rfl rfl rfl rfl ?_ | refine QL.gauto (hn := ?_))
    refine QL.gstep rfl rfl rfl rfl rfl (fun w hg => OpW.indexAddr 0 rfl rfl rfl (by simp) p2 p3 ⟨rfl, rfl⟩) ?_
    have p1' : ∀ w, Grow w11 w → Sl w OA2 cells2 := fun w hg => p1.grow hg
    repeat (first | refine QL.nil ?_ | refine QL.auto (hn := ?_) | refine QL.gskip rfl rfl rfl rfl ?_ | refine QL.gauto (hn := ?_))
    refine QL.gstep rfl rfl rfl rfl rfl (fun w hg => OpW.toStr rfl (p6.sl.grow hg) rfl ⟨rfl, rfl⟩) ?_
    repeat (first | refine QL.nil ?_ | refine QL.auto (hn := ?_) | refine QL.gskip rfl rfl rfl rfl ?_ | refine QL.gauto (hn := ?_))
    refine QL.gstep rfl rfl rfl rfl rfl (fun w hg => OpW.toStr rfl (o11.sl.grow hg) rfl ⟨rfl, rfl⟩) ?_
    repeat (first | refine QL.nil ?_ | refine QL.auto (hn := ?_) | refine QL.gskip rfl rfl rfl rfl ?_ | refine QL.gauto (hn := ?_))
    rw [show decide (a ++ b = a ++ b) = true from by simp]
    repeat (first | refine QL.nil ?_ | refine QL.auto (hn := ?_) | refine QL.gskip rfl rfl rfl rfl ?_ | refine QL.gauto (hn := ?_))
    refine QL.gstep rfl rfl rfl rfl rfl (fun w hg => OpW.toStr rfl (o11.sl.grow hg) rfl ⟨rfl, rfl⟩) ?_
    repeat (first | refine QL.nil ?_ | refine QL.auto (hn := ?_) | refine QL.gskip rfl rfl rfl rfl ?_ | refine QL.gauto (hn := ?_))
    refine QL.gstep rfl rfl rfl rfl rfl (fun w hg => OpW.toStr rfl (((ha.grow g1).grow h11.g).grow hg) rfl ⟨rfl, rfl⟩) ?_
    repeat (first | refine QL.nil ?_ | refine QL.auto (hn := ?_) | refine QL.gskip rfl rfl rfl rfl ?_ | refine QL.gauto (hn := ?_))
    refine QL.gstep rfl rfl rfl rfl rfl (fun w hg => OpW.toStr rfl (((hb.grow g1).grow h11.g).grow hg) rfl ⟨rfl, rfl⟩) ?_
    repeat (first | refine QL.nil ?_ | refine QL.auto (hn := ?_) | refine QL.gskip rfl rfl rfl rfl ?_ | refine QL.gauto (hn := ?_))
    rw [show decide (a ++ b = a ++ b) = true from by simp]
    repeat (first | refine QL.nil ?_ | refine QL.auto (hn := ?_) | refine QL.gskip rfl rfl rfl rfl ?_ | refine QL.gauto (hn := ?_))
    intro w12 g12
    repeat (first | refine WL.nil ?_ | refine WL.auto (h := ?_) | refine WL.gskip rfl rfl rfl rfl ?_ | refine WL.gauto (h := ?_) | (refine CW.seq ?_; intro K hK) | refine CW.block ?_ | refine CW.region ?_ | refine CW.skip ?_ | refine CW.exit ?_ | refine CW.ret ?_ | (refine thn_ret (K := K) ?_; clear hK K) | refine thn_ret ?_ | refine blk_ret ?_ | (refine thn_exit (K := K) ?_; clear hK K) | refine thn_exit ?_ | refine blk_here ?_ | refine blk_past rfl ?_ | refine thn_norm ?_ | refine blk_norm ?_ | refine CW.condT rfl ?_ | refine CW.condF rfl ?_ | (refine hK _ _ ?_; clear hK K))
    exact out1 (v := .bool true) Try.results8 rfl ⟨rfl, g1.then (h11.g.then g12)⟩ (Or.inr rfl)
end B
end Go.Proofs.Ytlofcomnhecgfaa
/- Plain: what a node finds again behind losses of power. -/
namespace Go.Proofs.Ytlofcomnhecgfaa
namespace B
set_option linter.unusedVariables false
set_option linter.unusedSimpArgs false
set_option maxRecDepth 4000

def fLog (l : List UInt8) (s : Nat) : PF := ⟨sLog, l, s⟩
def fMarks (m s : Nat) : PF := ⟨sMarks, List.replicate m 1, s⟩
/-- A disk on which so many records are sure, and it may be one more. -/
def KDisk (S : List (List UInt8)) (U : Option (List UInt8)) (d : PD) : Prop :=
  (S = [] ∧ d.files = []) ∨ (S = [] ∧ ∃ l s, d.files = [fLog l s] ∧ s ≤ l.length) ∨
    ∃ l s m sm, d.files = [fLog l s, fMarks m sm] ∧ s ≤ l.length ∧ enc S <+: l.take s ∧ S.length ≤ sm ∧ sm ≤ m ∧ (m = S.length ∨ ∃ r, U = some r ∧ m = S.length + 1 ∧ enc (S ++ [r]) <+: l.take s)
/-- The disk of a node at work. -/
def Live (S : List (List UInt8)) (d : PD) : Prop :=
  d.off = false ∧ ((S = [] ∧ d.files = []) ∨ (S = [] ∧ d.files = [fLog [] 0]) ∨ d.files = [fLog (enc S) (enc S).length, fMarks S.length S.length])
theorem Live.k {S : List (List UInt8)} {d : PD} (h : Live S d) (U : Option (List UInt8)) : KDisk S U d := by
  rcases h.2 with ⟨h1, h2⟩ | ⟨h1, h2⟩ | h2
  · exact Or.inl ⟨h1, h2⟩
  · exact Or.inr (Or.inl ⟨h1, [], 0, h2, Nat.le_refl _⟩)
  · exact Or.inr (Or.inr ⟨_, _, _, _, h2, Nat.le_refl _, by rw [List.take_length]; exact List.prefix_refl _, Nat.le_refl _, Nat.le_refl _, Or.inl rfl⟩)
theorem Live.arm {S : List (List UInt8)} {d : PD} (h : Live S d) (n : Int) : Live S (d.arm n) := by
  unfold PD.arm
  rw [if_neg (by rw [h.1]; simp)]
  exact h
theorem rep_snoc (n : Nat) : List.replicate n (1 : UInt8) ++ [1] = List.replicate (n + 1) 1 := List.replicate_succ'.symm

theorem begin_calm (fs : List PF) (k : Nat) : PD.begin ⟨fs, false, k + 2⟩ = (true, 0, ⟨fs, false, k + 1⟩) := by
  unfold PD.begin
  rw [if_neg (by simp), if_pos (by simp), if_neg (by simp)]
  rfl
theorem append_calm {fs fs' : List PF} {s b : List UInt8} (h : PD.append ⟨fs, false, 0⟩ s b = (0, ⟨fs', false, 0⟩)) (k : Nat) : PD.append ⟨fs, false, k + 2⟩ s b = (0, ⟨fs', false, k + 1⟩) := by
  have e : PD.begin ⟨fs, false, 0⟩ = (true, 0, ⟨fs, false, 0⟩) := rfl
  unfold PD.append at h ⊢
  rw [e] at h
  rw [begin_calm]
  simp only [if_true] at h ⊢
  have hx : PD.ix ⟨fs, false, k + 1⟩ s = PD.ix ⟨fs, false, 0⟩ s := rfl
  rw [hx]
  cases hi : PD.ix ⟨fs, false, 0⟩ s with
  | none =>
    rw [hi] at h
    simp only at h ⊢
    split at h
    · cases h
    · rename_i hc
      rw [if_neg hc]
      cases h
      rfl
  | some i =>
    rw [hi] at h
    simp only at h ⊢
    cases h
    rfl
theorem sync_calm {fs fs' : List PF} {s : List UInt8} (h : PD.sync ⟨fs, false, 0⟩ s = (0, ⟨fs', false, 0⟩)) (k : Nat) : PD.sync ⟨fs, false, k + 2⟩ s = (0, ⟨fs', false, k + 1⟩) := by
  have e : PD.begin ⟨fs, false, 0⟩ = (true, 0, ⟨fs, false, 0⟩) := rfl
  unfold PD.sync at h ⊢
  rw [e] at h
  rw [begin_calm]
  simp only [ne_eq, not_true_eq_false, if_false] at h ⊢
  have hx : PD.ix ⟨fs, false, k + 1⟩ s = PD.ix ⟨fs, false, 0⟩ s := rfl
  rw [hx]
  cases hi : PD.ix ⟨fs, false, 0⟩ s with
  | none => rw [hi] at h; cases h
  | some i =>
    rw [hi] at h
    simp only at h ⊢
    cases h
    rfl
theorem nput_calm {f0 f1 f2 f3 f4 : List PF} {r : List UInt8} (h1 : PD.append ⟨f0, false, 0⟩ sLog (beN r.length ++ r) = (0, ⟨f1, false, 0⟩)) (h2 : PD.sync ⟨f1, false, 0⟩ sLog = (0, ⟨f2, false, 0⟩))
    (h3 : PD.append ⟨f2, false, 0⟩ sMarks [1] = (0, ⟨f3, false, 0⟩)) (h4 : PD.sync ⟨f3, false, 0⟩ sMarks = (0, ⟨f4, false, 0⟩)) (k : Nat) : PD.nput ⟨f0, false, k + 5⟩ r = (0, ⟨f4, false, k + 1⟩) := by
  unfold PD.nput
  rw [append_calm h1 (k + 3)]
  simp only [ne_eq, not_true_eq_false, if_false]
  rw [sync_calm h2 (k + 2)]
  simp only [ne_eq, not_true_eq_false, if_false]
  rw [append_calm h3 (k + 1)]
  simp only [ne_eq, not_true_eq_false, if_false]
  rw [sync_calm h4 k]
set_option maxHeartbeats 2000000 in
/-- Put on the disk of a node at work. -/
theorem Live.put {S : List (List UInt8)} {d : PD} (h : Live S d) (r : List UInt8) :
    ((d.nput r).1 = 0 ∧ Live (S ++ [r]) (d.nput r).2) ∨ ((d.nput r).1 = 51 ∧ (d.nput r).2.off = true ∧ KDisk S (some r) (d.nput r).2) := by
  obtain ⟨files, off, armed⟩ := d
  obtain ⟨h1, h2⟩ := h
  simp only at h1 h2
  subst h1
  have hen : enc (S ++ [r]) = enc S ++ (beN r.length ++ r) := by rw [enc_append, enc_one]
  have hSl : (S ++ [r]).length = S.length + 1 := by simp
  rcases h2 with ⟨rfl, rfl⟩ | ⟨rfl, rfl⟩ | rfl
  · have e0 : enc ([] ++ [r]) = beN r.length ++ r := by rw [hen, enc_nil, List.nil_append]
    have lv : ∀ k, Live ([] ++ [r]) ⟨[⟨sLog, beN r.length ++ r, (beN r.length ++ r).length⟩, ⟨sMarks, [1], 1⟩], false, k⟩ := fun k =>
      ⟨rfl, Or.inr (Or.inr (by rw [e0]; rfl))⟩
    match armed with
    | 0 => exact Or.inl ⟨rfl, lv 0⟩
    | 1 => exact Or.inr ⟨rfl, rfl, Or.inr (Or.inl ⟨rfl, beN r.length ++ r, 0, rfl, Nat.zero_le _⟩)⟩
    | 2 => exact Or.inr ⟨rfl, rfl, Or.inr (Or.inl ⟨rfl, beN r.length ++ r, 0, rfl, Nat.zero_le _⟩)⟩
    | 3 => exact Or.inr ⟨rfl, rfl, Or.inr (Or.inr ⟨beN r.length ++ r, (beN r.length ++ r).length, 1, 0, rfl, Nat.le_refl _, List.nil_prefix, Nat.le_refl _, by decide, Or.inr ⟨r, rfl, rfl, by rw [List.take_length, e0]; exact List.prefix_refl _⟩⟩)⟩
    | 4 => exact Or.inr ⟨rfl, rfl, Or.inr (Or.inr ⟨beN r.length ++ r, (beN r.length ++ r).length, 1, 0, rfl, Nat.le_refl _, List.nil_prefix, Nat.le_refl _, by decide, Or.inr ⟨r, rfl, rfl, by rw [List.take_length, e0]; exact List.prefix_refl _⟩⟩)⟩
    | k + 5 => exact Or.inl (by rw [nput_calm rfl rfl rfl rfl k]; exact ⟨rfl, lv (k + 1)⟩)
  · have e0 : enc ([] ++ [r]) = beN r.length ++ r := by rw [hen, enc_nil, List.nil_append]
    have lv : ∀ k, Live ([] ++ [r]) ⟨[⟨sLog, [] ++ (beN r.length ++ r), ([] ++ (beN r.length ++ r)).length⟩, ⟨sMarks, [1], 1⟩], false, k⟩ := fun k =>
      ⟨rfl, Or.inr (Or.inr (by rw [e0]; rfl))⟩
    match armed with
    | 0 => exact Or.inl ⟨rfl, lv 0⟩
    | 1 => exact Or.inr ⟨rfl, rfl, Or.inr (Or.inl ⟨rfl, beN r.length ++ r, 0, rfl, Nat.zero_le _⟩)⟩
    | 2 => exact Or.inr ⟨rfl, rfl, Or.inr (Or.inl ⟨rfl, beN r.length ++ r, 0, rfl, Nat.zero_le _⟩)⟩
    | 3 => exact Or.inr ⟨rfl, rfl, Or.inr (Or.inr ⟨beN r.length ++ r, (beN r.length ++ r).length, 1, 0, rfl, Nat.le_refl _, List.nil_prefix, Nat.le_refl _, by decide, Or.inr ⟨r, rfl, rfl, by rw [List.take_length, e0]; exact List.prefix_refl _⟩⟩)⟩
    | 4 => exact Or.inr ⟨rfl, rfl, Or.inr (Or.inr ⟨beN r.length ++ r, (beN r.length ++ r).length, 1, 0, rfl, Nat.le_refl _, List.nil_prefix, Nat.le_refl _, by decide, Or.inr ⟨r, rfl, rfl, by rw [List.take_length, e0]; exact List.prefix_refl _⟩⟩)⟩
    | k + 5 => exact Or.inl (by rw [nput_calm rfl rfl rfl rfl k]; exact ⟨rfl, lv (k + 1)⟩)
  · have lv : ∀ k, Live (S ++ [r]) ⟨[⟨sLog, enc S ++ (beN r.length ++ r), (enc S ++ (beN r.length ++ r)).length⟩, ⟨sMarks, List.replicate S.length 1 ++ [1], (List.replicate S.length (1 : UInt8) ++ [1]).length⟩], false, k⟩ := fun k =>
      ⟨rfl, Or.inr (Or.inr (by rw [hen, hSl, rep_snoc, List.length_replicate]; rfl))⟩
    have l1 : (enc S).length ≤ (enc S ++ (beN r.length ++ r)).length := by rw [List.length_append]; omega
    have p1 : enc S <+: (enc S ++ (beN r.length ++ r)).take (enc S).length := by rw [List.take_left' rfl]; exact List.prefix_refl _
    have p2 : enc S <+: (enc S ++ (beN r.length ++ r)).take (enc S ++ (beN r.length ++ r)).length := by rw [List.take_length]; exact List.prefix_append _ _
    have p3 : enc (S ++ [r]) <+: (enc S ++ (beN r.length ++ r)).take (enc S ++ (beN r.length ++ r)).length := by rw [List.take_length, hen]; exact List.prefix_refl _
    have kd : ∀ k, KDisk S (some r) ⟨[⟨sLog, enc S ++ (beN r.length ++ r), (enc S ++ (beN r.length ++ r)).length⟩, ⟨sMarks, List.replicate S.length 1 ++ [1], S.length⟩], true, k⟩ := fun k =>
      Or.inr (Or.inr ⟨enc S ++ (beN r.length ++ r), (enc S ++ (beN r.length ++ r)).length, S.length + 1, S.length, by rw [rep_snoc]; rfl, Nat.le_refl _, p2, Nat.le_refl _, Nat.le_succ _, Or.inr ⟨r, rfl, rfl, p3⟩⟩)
    match armed with
    | 0 => exact Or.inl ⟨rfl, lv 0⟩
    | 1 => exact Or.inr ⟨rfl, rfl, Or.inr (Or.inr ⟨enc S ++ (beN r.length ++ r), (enc S).length, S.length, S.length, rfl, l1, p1, Nat.le_refl _, Nat.le_refl _, Or.inl rfl⟩)⟩
    | 2 => exact Or.inr ⟨rfl, rfl, Or.inr (Or.inr ⟨enc S ++ (beN r.length ++ r), (enc S).length, S.length, S.length, rfl, l1, p1, Nat.le_refl _, Nat.le_refl _, Or.inl rfl⟩)⟩
    | 3 => exact Or.inr ⟨rfl, rfl, kd 0⟩
    | 4 => exact Or.inr ⟨rfl, rfl, kd 0⟩
    | k + 5 => exact Or.inl (by rw [nput_calm rfl rfl rfl rfl k]; exact ⟨rfl, lv (k + 1)⟩)

/-- What a loss of power leaves, loaded anew: all of it safe. -/
def Whole (S : List (List UInt8)) (U : Option (List UInt8)) (d : PD) : Prop :=
  d.off = false ∧ ((S = [] ∧ d.files = []) ∨ (S = [] ∧ ∃ l, d.files = [fLog l l.length]) ∨
    ∃ R t, (R = S ∨ ∃ r, U = some r ∧ R = S ++ [r]) ∧ d.files = [fLog (enc R ++ t) (enc R ++ t).length, fMarks R.length R.length])
theorem crash_marks (m sm : Nat) (ks : List Bool) (h : sm ≤ m) (h1 : m ≤ sm + 1) : ∃ m', (crashFile (fMarks m sm) ks).1 = List.replicate m' 1 ∧ (m' = sm ∨ m' = m) := by
  have hl : (fMarks m sm).data.length = m := by simp [fMarks]
  by_cases e : m = sm
  · subst e
    refine ⟨m, ?_, Or.inl rfl⟩
    unfold crashFile
    rw [hl, show m - (fMarks m m).safe = 0 from Nat.sub_self m]
    simp [crashRun, fMarks]
  · obtain rfl : m = sm + 1 := by omega
    have hr : crashRun (fMarks (sm + 1) sm) ks 1 = crashStep (List.replicate sm 1, sm, ks) 1 := by
      have h2 := crashRun_step (f := fMarks (sm + 1) sm) (ks := ks) (k := 0) (by rw [hl]; show sm + 0 < sm + 1; omega)
      rw [show (0 : Nat) + 1 = 1 from rfl] at h2
      rw [h2]
      have h3 : crashRun (fMarks (sm + 1) sm) ks 0 = (List.replicate sm 1, sm, ks) := by simp [crashRun, fMarks]
      rw [h3]
      congr 1
      simp [fMarks]
    unfold crashFile
    rw [hl, show sm + 1 - (fMarks (sm + 1) sm).safe = 1 from by show sm + 1 - sm = 1; omega, hr]
    unfold crashStep
    simp only
    split
    · exact ⟨sm + 1, by simp only [List.length_replicate]; rw [rep_snoc, List.take_of_length_le (by simp)], Or.inr rfl⟩
    · exact ⟨sm, by simp only; rw [List.take_append_of_le_length (by simp), List.take_of_length_le (by simp)], Or.inl rfl⟩
    · exact ⟨sm, by simp only; rw [List.take_append_of_le_length (by simp), List.take_of_length_le (by simp)], Or.inl rfl⟩
theorem KDisk.crash {S : List (List UInt8)} {U : Option (List UInt8)} {d : PD} (h : KDisk S U d) (ks : List Bool) (n : Int) : Whole S U (PD.arm ⟨(crashAll d.files ks).1.map toPF, false, 0⟩ n) := by
  obtain ⟨files, off, armed⟩ := d
  unfold PD.arm
  rw [if_neg (by simp)]
  refine ⟨rfl, ?_⟩
  rcases h with ⟨rfl, h2⟩ | ⟨rfl, l, s, h2, h3⟩ | ⟨l, s, m, sm, h2, h3, h4, h5, h6, h7⟩
  · simp only at h2
    subst h2
    exact Or.inl ⟨rfl, rfl⟩
  · simp only at h2
    subst h2
    exact Or.inr (Or.inl ⟨rfl, (crashFile (fLog l s) ks).1, rfl⟩)
  · simp only at h2
    subst h2
    obtain ⟨q1, q2, q3⟩ := crashFile_mid (f := fLog l s) h3 ks
    have hm1 : m ≤ sm + 1 := by rcases h7 with h | ⟨r, _, h, _⟩ <;> omega
    obtain ⟨m', e1, e2⟩ := crash_marks m sm (crashFile (fLog l s) ks).2 h6 hm1
    have e3 : ((crashAll [fLog l s, fMarks m sm] ks).1.map toPF) = [fLog (crashFile (fLog l s) ks).1 (crashFile (fLog l s) ks).1.length, fMarks m' m'] := by
      show [toPF (sLog, (crashFile (fLog l s) ks).1), toPF (sMarks, (crashFile (fMarks m sm) (crashFile (fLog l s) ks).2).1)] = _
      rw [e1]
      simp [toPF, fLog, fMarks]
    have e4 : l.take s = (crashFile (fLog l s) ks).1.take s := q3.symm
    rw [e4] at h4
    rw [e4] at h7
    generalize (crashFile (fLog l s) ks).1 = l' at *
    have pre : ∀ R, enc R <+: l'.take s → ∃ t, l' = enc R ++ t := fun R hp => by
      obtain ⟨t, ht⟩ := hp.trans (List.take_prefix s l')
      exact ⟨t, ht.symm⟩
    refine Or.inr (Or.inr ?_)
    simp only [e3]
    by_cases hms : m' = S.length
    · obtain ⟨t, ht⟩ := pre S h4
      exact ⟨S, t, Or.inl rfl, by rw [← ht, hms]⟩
    · rcases h7 with h7 | ⟨r, hU, hmm, hp⟩
      · omega
      · obtain ⟨t, ht⟩ := pre (S ++ [r]) hp
        exact ⟨S ++ [r], t, Or.inr ⟨r, hU, rfl⟩, by rw [← ht]; simp only [List.length_append, List.length_cons, List.length_nil]; rw [show S.length + (0 + 1) = m' from by omega]⟩

theorem sync_log (l : List UInt8) (s : Nat) (rest : List PF) (armed : Nat) : ∃ a, PD.sync ⟨fLog l s :: rest, false, armed⟩ sLog = (0, ⟨fLog l l.length :: rest, false, a⟩) ∨ PD.sync ⟨fLog l s :: rest, false, armed⟩ sLog = (51, ⟨fLog l s :: rest, true, a⟩) := by
  match armed with
  | 0 => exact ⟨0, Or.inl rfl⟩
  | 1 => exact ⟨0, Or.inr rfl⟩
  | k + 2 => exact ⟨k + 1, Or.inl rfl⟩
theorem sync_marks (l : List UInt8) (s m : Nat) (armed : Nat) : ∃ a, PD.sync ⟨[fLog l s, fMarks m m], false, armed⟩ sMarks = (0, ⟨[fLog l s, fMarks m m], false, a⟩) ∨ PD.sync ⟨[fLog l s, fMarks m m], false, armed⟩ sMarks = (51, ⟨[fLog l s, fMarks m m], true, a⟩) := by
  have e : fMarks m (List.replicate m (1 : UInt8)).length = fMarks m m := by rw [List.length_replicate]
  match armed with
  | 0 =>
    refine ⟨0, Or.inl ?_⟩
    show ((0 : Int), (⟨[fLog l s, fMarks m (List.replicate m (1 : UInt8)).length], false, 0⟩ : PD)) = _
    rw [e]
  | 1 => exact ⟨0, Or.inr rfl⟩
  | k + 2 =>
    refine ⟨k + 1, Or.inl ?_⟩
    show ((0 : Int), (⟨[fLog l s, fMarks m (List.replicate m (1 : UInt8)).length], false, k + 1⟩ : PD)) = _
    rw [e]
theorem trunc_log (l : List UInt8) (s : Nat) (rest : List PF) (armed n : Nat) (hn : n ≤ l.length) : ∃ a, PD.truncate ⟨fLog l s :: rest, false, armed⟩ sLog n = (0, ⟨fLog (l.take n) (min s n) :: rest, false, a⟩) ∨ PD.truncate ⟨fLog l s :: rest, false, armed⟩ sLog n = (51, ⟨fLog l s :: rest, true, a⟩) := by
  have key : ∀ a, (if (n : Int) < 0 ∨ ((l.length : Nat) : Int) < (n : Int) then ((2 : Int), (⟨fLog l s :: rest, false, a⟩ : PD)) else (0, ⟨fLog (l.take (n : Int).toNat) (min s (n : Int).toNat) :: rest, false, a⟩)) = (0, ⟨fLog (l.take n) (min s n) :: rest, false, a⟩) := fun a => by
    rw [if_neg (by omega), Int.toNat_natCast]
  match armed with
  | 0 => exact ⟨0, Or.inl (key 0)⟩
  | 1 => exact ⟨0, Or.inr rfl⟩
  | k + 2 => exact ⟨k + 1, Or.inl (key (k + 1))⟩
theorem settle_log (l : List UInt8) (rest : List PF) (armed n : Nat) (hn : n ≤ l.length) :
    (∃ a, PD.settle ⟨fLog l l.length :: rest, false, armed⟩ sLog l.length n = (0, ⟨fLog (l.take n) (l.take n).length :: rest, false, a⟩)) ∨
    ∃ x a, (x = l ∨ x = l.take n) ∧ PD.settle ⟨fLog l l.length :: rest, false, armed⟩ sLog l.length n = (51, ⟨fLog x x.length :: rest, true, a⟩) := by
  unfold PD.settle
  by_cases h : n < l.length
  · rw [if_pos h]
    have hl : (l.take n).length = n := by simp; omega
    have hm : min l.length n = (l.take n).length := by omega
    obtain ⟨a, h1 | h1⟩ := trunc_log l l.length rest armed n hn
    · rw [h1, hm]
      simp only [ne_eq, not_true_eq_false, if_false]
      obtain ⟨a2, h2 | h2⟩ := sync_log (l.take n) (l.take n).length rest a
      · exact Or.inl ⟨a2, h2⟩
      · exact Or.inr ⟨_, a2, Or.inr rfl, h2⟩
    · rw [h1]
      exact Or.inr ⟨l, a, Or.inl rfl, by rw [if_pos (by simp)]⟩
  · rw [if_neg h]
    have ht : l.take n = l := List.take_of_length_le (by omega)
    rw [ht]
    obtain ⟨a, h1 | h1⟩ := sync_log l l.length rest armed
    · exact Or.inl ⟨a, h1⟩
    · exact Or.inr ⟨l, a, Or.inl rfl, h1⟩

/-- Open on what a loss of power left. -/
theorem Whole.open_ {S : List (List UInt8)} {U : Option (List UInt8)} {d : PD} (h : Whole S U d) (hS : ∀ r ∈ S, r.length < 18446744073709551616) (hU : ∀ r, U = some r → r.length < 18446744073709551616) :
    (∃ R d', d.nopen = (some R, 0, d') ∧ Live R d' ∧ (R = S ∨ ∃ r, U = some r ∧ R = S ++ [r])) ∨ ∃ d', d.nopen = (none, 51, d') ∧ d'.off = true ∧ KDisk S U d' := by
  obtain ⟨files, off, armed⟩ := d
  obtain ⟨h1, h2⟩ := h
  simp only at h1 h2
  subst h1
  rcases h2 with ⟨rfl, rfl⟩ | ⟨rfl, l, rfl⟩ | ⟨R, t, hR, rfl⟩
  · exact Or.inl ⟨[], _, rfl, ⟨rfl, Or.inl ⟨rfl, rfl⟩⟩, Or.inl rfl⟩
  · have r1 : PD.read1 ⟨[fLog l l.length], false, armed⟩ sMarks = ([], false, 0) := rfl
    have r2 : PD.read1 ⟨[fLog l l.length], false, armed⟩ sLog = (l, true, 0) := rfl
    have hc : cutN l 0 = some ([], l) := rfl
    have ho : ones [] = 0 := rfl
    have e1 : PD.settled ⟨[fLog l l.length], false, armed⟩ ([], false, 0) (l, true, 0) 0 l = PD.settle ⟨[fLog l l.length], false, armed⟩ sLog l.length 0 := by
      show PD.settle ⟨[fLog l l.length], false, armed⟩ sLog l.length (l.length - l.length) = _
      rw [Nat.sub_self]
    have e0 : PD.nopen ⟨[fLog l l.length], false, armed⟩ = if (PD.settle ⟨[fLog l l.length], false, armed⟩ sLog l.length 0).1 ≠ 0 then (none, (PD.settle ⟨[fLog l l.length], false, armed⟩ sLog l.length 0).1, (PD.settle ⟨[fLog l l.length], false, armed⟩ sLog l.length 0).2) else (some [], 0, (PD.settle ⟨[fLog l l.length], false, armed⟩ sLog l.length 0).2) := by
      unfold PD.nopen
      simp only [r1, r2, ho, hc, e1]
      rfl
    rw [e0]
    rcases settle_log l [] armed 0 (Nat.zero_le _) with ⟨a, h3⟩ | ⟨x, a, hx, h3⟩
    · rw [h3]
      refine Or.inl ⟨[], _, rfl, ⟨rfl, Or.inr (Or.inl ⟨rfl, rfl⟩)⟩, Or.inl rfl⟩
    · rw [h3]
      exact Or.inr ⟨_, rfl, rfl, Or.inr (Or.inl ⟨rfl, x, x.length, rfl, Nat.le_refl _⟩)⟩
  · have hRl : ∀ r ∈ R, r.length < 18446744073709551616 := by
      intro r hr
      rcases hR with rfl | ⟨u, hu, rfl⟩
      · exact hS r hr
      · rcases List.mem_append.1 hr with hr | hr
        · exact hS r hr
        · rw [List.mem_singleton.1 hr]; exact hU u hu
    have r1 : PD.read1 ⟨[fLog (enc R ++ t) (enc R ++ t).length, fMarks R.length R.length], false, armed⟩ sMarks = (List.replicate R.length 1, true, 0) := rfl
    have r2 : PD.read1 ⟨[fLog (enc R ++ t) (enc R ++ t).length, fMarks R.length R.length], false, armed⟩ sLog = (enc R ++ t, true, 0) := rfl
    have hc := cutN_all R t hRl
    have e1 : PD.settled1 ⟨[fLog (enc R ++ t) (enc R ++ t).length, fMarks R.length R.length], false, armed⟩ (List.replicate R.length 1, true, 0) R.length = PD.sync ⟨[fLog (enc R ++ t) (enc R ++ t).length, fMarks R.length R.length], false, armed⟩ sMarks := by
      unfold PD.settled1 PD.settle
      rw [if_pos rfl, if_neg (by simp)]
    have hlen : (enc R ++ t).length - t.length = (enc R).length := by simp
    have htake : (enc R ++ t).take (enc R).length = enc R := List.take_left' rfl
    have kd : ∀ x a, (x = enc R ++ t ∨ x = enc R) → KDisk S U ⟨[fLog x x.length, fMarks R.length R.length], true, a⟩ := fun x a hx => by
      have hp : enc R <+: x := by
        rcases hx with rfl | rfl
        · exact List.prefix_append _ _
        · exact List.prefix_refl _
      refine Or.inr (Or.inr ⟨x, x.length, R.length, R.length, rfl, Nat.le_refl _, ?_, ?_, Nat.le_refl _, ?_⟩)
      · rw [List.take_length]
        rcases hR with rfl | ⟨u, hu, rfl⟩
        · exact hp
        · rw [enc_append] at hp
          exact (List.prefix_append _ _).trans hp
      · rcases hR with rfl | ⟨u, hu, rfl⟩
        · exact Nat.le_refl _
        · simp
      · rcases hR with rfl | ⟨u, hu, rfl⟩
        · exact Or.inl rfl
        · exact Or.inr ⟨u, hu, by simp, by rw [List.take_length]; exact hp⟩
    have e0 : ∀ r : Int × PD, PD.settled ⟨[fLog (enc R ++ t) (enc R ++ t).length, fMarks R.length R.length], false, armed⟩ (List.replicate R.length 1, true, 0) (enc R ++ t, true, 0) R.length t = r → PD.nopen ⟨[fLog (enc R ++ t) (enc R ++ t).length, fMarks R.length R.length], false, armed⟩ = if r.1 ≠ 0 then (none, r.1, r.2) else (some R, 0, r.2) := by
      rintro r rfl
      unfold PD.nopen
      simp only [r1, r2, ones_rep, hc]
      rfl
    obtain ⟨a, h3 | h3⟩ := sync_marks (enc R ++ t) (enc R ++ t).length R.length armed
    · rcases settle_log (enc R ++ t) [fMarks R.length R.length] a (enc R).length (by simp) with ⟨a2, h4⟩ | ⟨x, a2, hx, h4⟩
      · rw [htake] at h4
        have h5 := e0 (0, ⟨[fLog (enc R) (enc R).length, fMarks R.length R.length], false, a2⟩) (by
          unfold PD.settled
          rw [e1, h3]
          unfold PD.settled2
          rw [if_pos ⟨rfl, rfl⟩]
          simp only
          rw [hlen]
          exact h4)
        rw [h5]
        exact Or.inl ⟨R, _, rfl, ⟨rfl, Or.inr (Or.inr rfl)⟩, hR⟩
      · rw [htake] at hx
        have h5 := e0 (51, ⟨[fLog x x.length, fMarks R.length R.length], true, a2⟩) (by
          unfold PD.settled
          rw [e1, h3]
          unfold PD.settled2
          rw [if_pos ⟨rfl, rfl⟩]
          simp only
          rw [hlen]
          exact h4)
        rw [h5]
        exact Or.inr ⟨_, rfl, rfl, kd x a2 hx⟩
    · have h5 := e0 (51, ⟨[fLog (enc R ++ t) (enc R ++ t).length, fMarks R.length R.length], true, a⟩) (by
        unfold PD.settled
        rw [e1, h3]
        unfold PD.settled2
        rw [if_neg (by simp)])
      rw [h5]
      exact Or.inr ⟨_, rfl, rfl, kd _ a (Or.inl rfl)⟩
end B
end Go.Proofs.Ytlofcomnhecgfaa
/- What a law keeps beside a disk and a node: rows that it owns, bytes. Sizes are bounded. -/
namespace Go.Proofs.Ytlofcomnhecgfaa
namespace B
attribute [local irreducible] OpW WL CW Ret Sl Blk thn blk outOf
set_option linter.unusedVariables false
set_option linter.unusedSimpArgs false
set_option maxRecDepth 4000

/-- Calls that change only X's blocks leave a disk; what is new becomes X's. -/
theorem One.wide {X : Nat → Prop} {w w' : World} {db : Nat} {d : PD} (h : One X w db d) (hc : Chg X w w') : One (fun k => X k ∨ w.heap.size ≤ k ∧ k < w'.heap.size) w' db d := by
  obtain ⟨tag, h1, h2⟩ := h
  obtain ⟨FA, fcap, fs, h3⟩ := h2.retag (tag' := fun k => if k < w.heap.size then tag k else .other) fun k hk => if_pos hk
  refine ⟨_, fun k hk => ?_, FA, fcap, fs, h3.keep hc fun b hb hx => ?_⟩
  · rcases hk with hk | hk
    · obtain ⟨q1, q2⟩ := h1 k hk
      exact ⟨Nat.lt_of_lt_of_le q1 hc.size, by show (if _ then _ else _) = _; rw [if_pos q1]; exact q2⟩
    · exact ⟨hk.2, by show (if _ then _ else _) = _; rw [if_neg (by omega)]⟩
  · obtain ⟨q1, q2⟩ := h1 b hx
    simp only [q1, if_true, q2] at hb
    cases hb
/-- Rows of bytes of the own, their blocks of one zone. -/
def RowsAt (w : World) (RA : Option Addr) (rcap : Nat) (rs : List (List UInt8)) (Z : Nat → Prop) : Prop :=
  ∃ (cells : List Value) (col : Nat → Nat), Own w RA 22 1 rs.length rcap cells (fun b => Z b ∧ col b = 0) ∧ ∀ (i : Nat) (r : List UInt8), rs[i]? = some r → ∃ DA c, cells[i]? = some (Value.slice DA r.length c) ∧ Own w DA 5 1 r.length c (bvs r) (fun b => Z b ∧ col b = i + 1)
section
variable {S Z Z' : Nat → Prop} {w w' w1 w2 w3 : World} {RA : Option Addr} {rcap lo hi : Nat} {rs : List (List UInt8)}
theorem RowsAt.keep (h : RowsAt w RA rcap rs Z) (hc : Chg S w w') (hn : ∀ b, Z b → ¬ S b) : RowsAt w' RA rcap rs Z := by
  obtain ⟨cells, col, h1, h2⟩ := h
  refine ⟨cells, col, h1.keep hc fun b hb => hn b hb.1, fun i r hr => ?_⟩
  obtain ⟨DA, c, h3, h4⟩ := h2 i r hr
  exact ⟨DA, c, h3, h4.keep hc fun b hb => hn b hb.1⟩
theorem RowsAt.zone (h : RowsAt w RA rcap rs Z) (hz : ∀ b, b < w.heap.size → Z b → Z' b) : RowsAt w RA rcap rs Z' := by
  obtain ⟨cells, col, h1, h2⟩ := h
  refine ⟨cells, col, h1.zone fun a ha => ⟨hz _ (h1.in_ ha).2 (h1.in_ ha).1.1, (h1.in_ ha).1.2⟩, fun i r hr => ?_⟩
  obtain ⟨DA, c, h3, h4⟩ := h2 i r hr
  exact ⟨DA, c, h3, h4.zone fun a ha => ⟨hz _ (h4.in_ ha).2 (h4.in_ ha).1.1, (h4.in_ ha).1.2⟩⟩
theorem RowsAt.nil (w : World) (Z : Nat → Prop) : RowsAt w none 0 [] Z := ⟨[], fun _ => 0, Own.nil _ _ _ _, fun i r hr => by simp at hr⟩
theorem RecRows.at_ (h : RecRows w RA rcap rs lo hi) : RowsAt w RA rcap rs (fun b => lo ≤ b ∧ b < hi) := by
  obtain ⟨cells, col, h1, h2⟩ := h
  refine ⟨cells, col, h1.mono fun b hb => ⟨⟨hb.1, hb.2.1⟩, hb.2.2⟩, fun i r hr => ?_⟩
  obtain ⟨DA, c, h3, h4⟩ := h2 i r hr
  exact ⟨DA, c, h3, h4.mono fun b hb => ⟨⟨hb.1, hb.2.1⟩, hb.2.2⟩⟩
/-- A row more: what is changed, and whose it is. -/
theorem RowsAt.snoc {cells : List Value} {col : Nat → Nat} {RA' A' : Option Addr} {rcap' c' : Nat} {r : List UInt8}
    (h1 : Own w RA 22 1 rs.length rcap cells (fun b => Z b ∧ col b = 0)) (h2 : ∀ (i : Nat) (r : List UInt8), rs[i]? = some r → ∃ DA c, cells[i]? = some (Value.slice DA r.length c) ∧ Own w DA 5 1 r.length c (bvs r) (fun b => Z b ∧ col b = i + 1))
    (g1 : Grow w w1) (oA : Own w1 A' 5 1 r.length c' (bvs r) (fresh w)) (g2 : Grow w1 w2)
    (o3 : Own w3 RA' 22 1 (rs.length + 1) rcap' (cells ++ [Value.slice A' r.length c']) (fun b => (∃ a, RA = some a ∧ a.block = b) ∨ w2.heap.size ≤ b)) (c3 : Chg (fun b => ∃ a, RA = some a ∧ a.block = b) w2 w3) : RowsAt w3 RA' rcap' (rs ++ [r]) (fun b => (Z b ∧ b < w.heap.size) ∨ w.heap.size ≤ b ∧ b < w3.heap.size) := by
  have z1 : w.heap.size ≤ w1.heap.size := g1.size
  have z2 : w1.heap.size ≤ w2.heap.size := g2.size
  have z3 : w2.heap.size ≤ w3.heap.size := c3.size
  have hcl : cells.length = rs.length := by have := h1.1; omega
  have ra : ∀ a, RA = some a → Z a.block ∧ a.block < w.heap.size ∧ col a.block = 0 := fun a ha => ⟨(h1.in_ ha).1.1, (h1.in_ ha).2, (h1.in_ ha).1.2⟩
  refine ⟨cells ++ [Value.slice A' r.length c'], fun b => if b < w.heap.size then col b else if b < w1.heap.size then rs.length + 1 else 0, ?_, fun i x hx => ?_⟩
  · simp only [List.length_append, List.length_cons, List.length_nil]
    refine o3.zone fun a ha => ?_
    have hin := o3.in_ ha
    rcases hin.1 with ⟨a', ha', e⟩ | hb
    · have q := ra a' ha'
      rw [e] at q
      exact ⟨Or.inl ⟨q.1, q.2.1⟩, by show (if _ then _ else _) = _; rw [if_pos q.2.1]; exact q.2.2⟩
    · exact ⟨Or.inr ⟨by omega, by omega⟩, by show (if _ then _ else _) = _; rw [if_neg (by omega), if_neg (by omega)]⟩
  · rcases Nat.lt_or_ge i rs.length with hi | hi
    · rw [List.getElem?_append_left hi] at hx
      obtain ⟨DA, c, h3, h4⟩ := h2 i x hx
      refine ⟨DA, c, by rw [List.getElem?_append_left (by omega)]; exact h3, ?_⟩
      have hne : ∀ b, Z b ∧ col b = i + 1 → ¬ ∃ a, RA = some a ∧ a.block = b := by
        rintro b hb ⟨a, ha, e⟩
        have q := ra a ha
        rw [e] at q
        have := hb.2
        omega
      refine (((h4.grow g1).grow g2).keep c3 hne).zone fun a ha => ?_
      have q := h4.in_ ha
      exact ⟨Or.inl ⟨q.1.1, q.2⟩, by show (if _ then _ else _) = _; rw [if_pos q.2]; exact q.1.2⟩
    · have hin : i = rs.length := by
        have := (List.getElem?_eq_some_iff.1 hx).1
        simp at this; omega
      subst hin
      rw [List.getElem?_append_right (Nat.le_refl _), Nat.sub_self] at hx
      simp only [List.getElem?_cons_zero, Option.some.injEq] at hx
      subst hx
      refine ⟨A', c', by rw [← hcl]; simp, ?_⟩
      have hne : ∀ b, fresh w b → ¬ ∃ a, RA = some a ∧ a.block = b := by
        rintro b hb ⟨a, ha, e⟩
        have q := ra a ha
        have hb' : w.heap.size ≤ b := hb
        omega
      refine ((oA.grow g2).keep c3 hne).zone fun a ha => ?_
      have q := oA.in_ ha
      have q1 : w.heap.size ≤ a.block := q.1
      exact ⟨Or.inr ⟨by omega, by omega⟩, by show (if _ then _ else _) = _; rw [if_neg (by omega), if_pos q.2]⟩
end

theorem Own.ne {w : World} {A : Option Addr} {E : TypeId} {k n cap nb : Nat} {xs : List Value} {Z : Nat → Prop} {cs : Array Value} {t : TypeId} (h : Own w A E k n cap xs Z) (hb : Blk w nb cs t) (ht : t ≠ E) : ∀ a, A = some a → a.block ≠ nb := by
  rintro a rfl e
  rcases h.2 with ⟨h1, _⟩ | ⟨g, cur, h1, _, h3, _⟩
  · cases h1
  · cases h1
    simp only at e
    subst e
    have hb' : w.heap[g]? = some (.cells cs t (0, 0)) := by unfold Blk at hb; exact hb
    rw [hb'] at h3
    cases h3
    exact ht rfl
theorem RowsAt.off {w : World} {RA : Option Addr} {rcap nb : Nat} {rs : List (List UInt8)} {Z : Nat → Prop} {cs : Array Value} {t : TypeId} (h : RowsAt w RA rcap rs Z) (hb : Blk w nb cs t) (h1 : t ≠ 22) (h2 : t ≠ 5) : RowsAt w RA rcap rs (fun b => Z b ∧ b ≠ nb) := by
  obtain ⟨cells, col, o, r⟩ := h
  refine ⟨cells, col, o.zone fun a ha => ⟨⟨(o.in_ ha).1.1, o.ne hb h1 a ha⟩, (o.in_ ha).1.2⟩, fun i x hx => ?_⟩
  obtain ⟨DA, c, h3, h4⟩ := r i x hx
  exact ⟨DA, c, h3, h4.zone fun a ha => ⟨⟨(h4.in_ ha).1.1, h4.ne hb h2 a ha⟩, (h4.in_ ha).1.2⟩⟩
theorem RowsAt.in_ {w : World} {RA : Option Addr} {rcap : Nat} {rs : List (List UInt8)} {Z : Nat → Prop} (h : RowsAt w RA rcap rs Z) : ∃ cells : List Value, Sl w RA cells ∧ cells.length = rs.length ∧ ∀ (i : Nat) (r : List UInt8), rs[i]? = some r → ∃ D c, cells[i]? = some (Value.slice D r.length c) ∧ Sl w D (bvs r) := by
  obtain ⟨cells, col, h1, h2⟩ := h
  refine ⟨cells, h1.sl, by have := h1.1; omega, fun i r hr => ?_⟩
  obtain ⟨D, c, q1, q2⟩ := h2 i r hr
  exact ⟨D, c, q1, q2.sl⟩
/-- The bytes that the first k steps put, the marks and numbers beside them. -/
def putSum7 (ops : List Op7) (k : Nat) : Nat := ((ops.take k).map fun o => o.b.length + 9).sum
theorem putSum7_succ {ops : List Op7} {k : Nat} (h : k < ops.length) : putSum7 ops (k + 1) = putSum7 ops k + ((ops[k]).b.length + 9) := by
  unfold putSum7
  rw [List.take_succ_eq_append_getElem h, List.map_append, List.sum_append]
  simp
theorem putSum7_le (ops : List Op7) (k : Nat) : putSum7 ops k ≤ (ops.map fun o => o.b.length + o.keep.length + 1).sum + 8 * ops.length := by
  unfold putSum7
  induction ops generalizing k with
  | nil => simp
  | cons o ops ih =>
    cases k with
    | zero => simp
    | succ k =>
      have := ih k
      simp only [List.take_succ_cons, List.map_cons, List.sum_cons, List.length_cons]
      omega
theorem op_sizes7 {ops : List Op7} {n : Nat} (h : (ops.map fun o => o.b.length + o.keep.length + 1).sum ≤ n) : ∀ o ∈ ops, o.b.length ≤ n ∧ o.keep.length ≤ n := by
  intro o ho
  have := le_sum' (fun o : Op7 => o.b.length + o.keep.length + 1) ho
  omega

/-- The rows that a law holds as sure, the bytes it holds as perhaps there. -/
structure Holds (W w : World) (X : Nat → Prop) (c : Nat → Nat) (S : List (List UInt8)) (RA : Option Addr) (rcap : Nat) (u : List UInt8) (UA : Option Addr) : Prop where
  base : ∀ b, b < W.heap.size → X b
  rows : RowsAt w RA rcap S (fun b => X b ∧ W.heap.size ≤ b ∧ c b = 0)
  last : Sl w UA (bvs u)
  lastX : u ≠ [] → ∀ a, UA = some a → X a.block ∧ W.heap.size ≤ a.block ∧ c a.block = 1
theorem Holds.step {W w w' : World} {X X' Sx : Nat → Prop} {c c' : Nat → Nat} {S : List (List UInt8)} {RA : Option Addr} {rcap : Nat} {u : List UInt8} {UA : Option Addr} (h : Holds W w X c S RA rcap u UA) (hc : Chg Sx w w') (hn : ∀ b, X b → W.heap.size ≤ b → c b ≤ 1 → ¬ Sx b) (hX : ∀ b, X b → X' b) (hcc : ∀ b, b < w.heap.size → c' b = c b) : Holds W w' X' c' S RA rcap u UA := by
  refine ⟨fun b hb => hX b (h.base b hb), (h.rows.zone (Z' := fun b => X' b ∧ W.heap.size ≤ b ∧ c' b = 0 ∧ X b ∧ c b ≤ 1) fun b hb hz => ⟨hX b hz.1, hz.2.1, by rw [hcc b hb]; exact hz.2.2, hz.1, by rw [hz.2.2]; omega⟩).keep hc (fun b hb => hn b hb.2.2.2.1 hb.2.1 hb.2.2.2.2) |>.zone fun b _ hz => ⟨hz.1, hz.2.1, hz.2.2.1⟩, h.last.keepN hc fun hne a ha => ?_, fun hne a ha => ?_⟩
  · have q := h.lastX (by intro e; rw [e] at hne; exact hne rfl) a ha
    exact hn _ q.1 q.2.1 (by omega)
  · have q := h.lastX hne a ha
    exact ⟨hX _ q.1, q.2.1, by rw [hcc _ (h.last.lt (ne_bvs hne) ha)]; exact q.2.2⟩
/-- The node of a law: none or sick behind a loss, or at work. -/
def NodeNow (W w : World) (X : Nat → Prop) (c : Nat → Nat) (np : Option Addr) (db : Nat) (d : PD) (S : List (List UInt8)) (under : Bool) (u : List UInt8) : Prop :=
  (d.off = true ∧ KDisk S (if under = true then some u else none) d ∧ (np = none ∨ ∃ nb n, np = some ⟨nb, 0, none⟩ ∧ IsNode w nb db n true ∧ X nb ∧ W.heap.size ≤ nb ∧ c nb = 2)) ∨
  (Live S d ∧ under = false ∧ ∃ nb, np = some ⟨nb, 0, none⟩ ∧ IsNode w nb db S.length false ∧ X nb ∧ W.heap.size ≤ nb ∧ c nb = 2)
theorem NodeNow.step {W w w' : World} {X X' Sx : Nat → Prop} {c c' : Nat → Nat} {np : Option Addr} {db : Nat} {d : PD} {S : List (List UInt8)} {under : Bool} {u : List UInt8} (h : NodeNow W w X c np db d S under u) (hc : Chg Sx w w') (hn : ∀ b, X b → W.heap.size ≤ b → c b = 2 → ¬ Sx b) (hX : ∀ b, X b → X' b) (hcc : ∀ b, b < w.heap.size → c' b = c b) : NodeNow W w' X' c' np db d S under u := by
  rcases h with ⟨h1, h2, h3⟩ | ⟨h1, h2, nb, h3, h4, h5, h6, h7⟩
  · refine Or.inl ⟨h1, h2, h3.imp id ?_⟩
    rintro ⟨nb, n, h3, h4, h5, h6, h7⟩
    exact ⟨nb, n, h3, Blk.keep h4 hc (hn nb h5 h6 h7), hX nb h5, h6, by rw [hcc nb (Blk.lt h4)]; exact h7⟩
  · exact Or.inr ⟨h1, h2, nb, h3, Blk.keep h4 hc (hn nb h5 h6 h7), hX nb h5, h6, by rw [hcc nb (Blk.lt h4)]; exact h7⟩
theorem NodeNow.k {W w : World} {X : Nat → Prop} {c : Nat → Nat} {np : Option Addr} {db : Nat} {d : PD} {S : List (List UInt8)} {under : Bool} {u : List UInt8} (h : NodeNow W w X c np db d S under u) : KDisk S (if under = true then some u else none) d := by
  rcases h with ⟨h1, h2, h3⟩ | ⟨h1, h2, h3⟩
  · exact h2
  · exact h1.k _
end B
end Go.Proofs.Ytlofcomnhecgfaa
/- The walk of isthmuslaw07.NodeKeeps: it is true. Sizes are bounded. -/
namespace Go.Proofs.Ytlofcomnhecgfaa
namespace B
attribute [local irreducible] OpW WL CW Ret Sl Blk thn blk outOf
set_option linter.unusedVariables false
set_option linter.unusedSimpArgs false
set_option maxRecDepth 4000

theorem nkeeps19 (v0 : Value) (ops : List Op7) (W : World) (ho : InStructs W v0 4 (IsOp7 W) ops) (hol : ops.length ≤ 1048576) (hos : (ops.map fun o => o.b.length + o.keep.length + 1).sum ≤ 1048576) :
    Ret Try.prog 19 #[v0] W fun v w' => v = .bool true ∧ Grow W w' := by
  have hosz := op_sizes7 hos
  obtain ⟨OA, ocap, cs, rfl, hcap, hcm, hcl, hso, hoe⟩ := ho
  refine Ret.enter (fn := Try.f19) (N := 152) Try.func19 rfl Try.ntmps19 rfl ?_
  repeat (first | refine WL.nil ?_ | refine WL.auto (h := ?_) | refine WL.gskip rfl rfl rfl rfl ?_ | refine WL.gauto (h := ?_) | (refine CW.seq ?_; intro K hK) | refine CW.block ?_ | refine CW.region ?_ | refine CW.skip ?_ | refine CW.exit ?_ | refine CW.ret ?_ | (refine thn_ret (K := K) ?_; clear hK K) | refine thn_ret ?_ | refine blk_ret ?_ | (refine thn_exit (K := K) ?_; clear hK K) | refine thn_exit ?_ | refine blk_here ?_ | refine blk_past rfl ?_ | refine thn_norm ?_ | refine blk_norm ?_ | refine CW.condT rfl ?_ | refine CW.condF rfl ?_ | (refine hK _ _ ?_; clear hK K))
  first | refine WL.step rfl ?_ | refine WL.gstep rfl rfl rfl rfl ?_
  refine OpW.call ((fixed60 W).mono ?_) rfl
  rintro v w1 ⟨rfl, g1⟩
  repeat (first | refine WL.nil ?_ | refine WL.auto (h := ?_) | refine WL.gskip rfl rfl rfl rfl ?_ | refine WL.gauto (h := ?_) | (refine CW.seq ?_; intro K hK) | refine CW.block ?_ | refine CW.region ?_ | refine CW.skip ?_ | refine CW.exit ?_ | refine CW.ret ?_ | (refine thn_ret (K := K) ?_; clear hK K) | refine thn_ret ?_ | refine blk_ret ?_ | (refine thn_exit (K := K) ?_; clear hK K) | refine thn_exit ?_ | refine blk_here ?_ | refine blk_past rfl ?_ | refine thn_norm ?_ | refine blk_norm ?_ | refine CW.condT rfl ?_ | refine CW.condF rfl ?_ | (refine hK _ _ ?_; clear hK K))
  first | refine WL.step rfl ?_ | refine WL.gstep rfl rfl rfl rfl ?_
  refine OpW.call ((newOne (X := fun k => k < W.heap.size) w1 (fun _ h => Nat.lt_of_lt_of_le h g1.size)).mono ?_) rfl
  rintro v w2 ⟨db, rfl, h2, g2⟩
  repeat (first | refine WL.nil ?_ | refine WL.auto (h := ?_) | refine WL.gskip rfl rfl rfl rfl ?_ | refine WL.gauto (h := ?_) | (refine CW.seq ?_; intro K hK) | refine CW.block ?_ | refine CW.region ?_ | refine CW.skip ?_ | refine CW.exit ?_ | refine CW.ret ?_ | (refine thn_ret (K := K) ?_; clear hK K) | refine thn_ret ?_ | refine blk_ret ?_ | (refine thn_exit (K := K) ?_; clear hK K) | refine thn_exit ?_ | refine blk_here ?_ | refine blk_past rfl ?_ | refine thn_norm ?_ | refine blk_norm ?_ | refine CW.condT rfl ?_ | refine CW.condF rfl ?_ | (refine hK _ _ ?_; clear hK K))
  first | refine WL.step rfl ?_ | refine WL.gstep rfl rfl rfl rfl ?_
  refine OpW.call ((open61 h2 Fit.new (by decide)).mono ?_) rfl
  rintro v w3 ⟨hi, hhi, h3, c3, hv⟩
  rw [nopen_new] at h3 hv
  obtain ⟨nb, RA0, rcap0, rfl, hn, n1, n2, _⟩ := hv
  have g3 : Grow W w3 := base_grow (X := fun k => k < W.heap.size) (fun _ h => h) (g1.then g2) c3
  have hwn : W.heap.size ≤ nb := by have := g2.size; have := g1.size; omega
  repeat (first | refine WL.nil ?_ | refine WL.auto (h := ?_) | refine WL.gskip rfl rfl rfl rfl ?_ | refine WL.gskipU rfl rfl rfl rfl ?_ | refine WL.gauto (h := ?_) | (refine CW.seq ?_; intro K hK) | refine CW.block ?_ | refine CW.region ?_ | refine CW.skip ?_ | refine CW.exit ?_ | refine CW.ret ?_ | (refine thn_ret (K := K) ?_; clear hK K) | refine thn_ret ?_ | refine blk_ret ?_ | (refine thn_exit (K := K) ?_; clear hK K) | refine thn_exit ?_ | refine blk_here ?_ | refine blk_past rfl ?_ | refine thn_norm ?_ | refine blk_norm ?_ | refine CW.condT rfl ?_ | refine CW.condF rfl ?_ | (refine hK _ _ ?_; clear hK K))
  refine CW.loop (fun n' e w4 => ∃ (k db : Nat) (d : PD) (S : List (List UInt8)) (u : List UInt8) (under : Bool) (X : Nat → Prop) (c : Nat → Nat) (RA : Option Addr) (rcap : Nat) (UA : Option Addr) (uc : Nat) (np : Option Addr),
    k ≤ ops.length ∧ n' = ops.length - k ∧ Fit d (putSum7 ops k) ∧ One X w4 db d ∧ Holds W w4 X c S RA rcap u UA ∧ NodeNow W w4 X c np db d S under u ∧ (∀ r ∈ S, r.length ≤ 1048576) ∧ u.length ≤ 1048576 ∧ S.length ≤ 2 * k ∧ Grow W w4 ∧
    ∃ e0, e = upd (upd (upd (upd (upd (upd (upd (upd e0 3 (.pointer (some ⟨db, 0, none⟩))) 4 (.pointer np)) 7 (.slice RA S.length rcap)) 8 (.slice UA u.length uc)) 9 (.bool under)) 32 (.slice OA ops.length ocap)) 33 (.int .i64 ops.length)) 34 (.int .i64 k)) ops.length ?_ ?_
  · refine ⟨0, db, _, [], [], false, _, fun _ => 2, none, 0, none, 0, some ⟨nb, 0, none⟩, by omega, rfl, Fit.new, h3, ⟨fun b hb => Or.inl hb, RowsAt.nil _ _, Sl.nil _ _, fun h => absurd rfl h⟩, Or.inr ⟨⟨rfl, Or.inl ⟨rfl, rfl⟩⟩, rfl, nb, rfl, hn, Or.inr ⟨n1, n2⟩, hwn, rfl⟩, by simp, by simp, by simp, g3, rep8 rfl rfl rfl rfl rfl rfl rfl rfl⟩
  clear h3 h2 hn c3 g3 g2 g1 n1 n2 hwn hhi
  rintro n' e w4 ⟨k, db, d, S, u, under, X, c, RA, rcap, UA, uc, np, hk, rfl, hf, h4, H4, N4, hSl, hul, hSn, gW, e0, rfl⟩ KJ hJ
  have hpk := putSum7_le ops k
  repeat (first | refine WL.nil ?_ | refine WL.auto (h := ?_) | refine WL.gskip rfl rfl rfl rfl ?_ | refine WL.gauto (h := ?_) | (refine CW.seq ?_; intro K hK) | refine CW.block ?_ | refine CW.region ?_ | refine CW.skip ?_ | refine CW.exit ?_ | refine CW.ret ?_ | (refine thn_ret (K := K) ?_; clear hK K) | refine thn_ret ?_ | refine blk_ret ?_ | (refine thn_exit (K := K) ?_; clear hK K) | refine thn_exit ?_ | refine blk_here ?_ | refine blk_past rfl ?_ | refine thn_norm ?_ | refine blk_norm ?_ | refine CW.condT rfl ?_ | refine CW.condF rfl ?_ | (refine hK _ _ ?_; clear hK K))
  refine CW.condP rfl (fun h5 => ?_) (fun h5 => ?_)
  · have hkl : k < ops.length := by omega
    have hpk1 := putSum7_le ops (k + 1)
    have hps := putSum7_succ hkl
    obtain ⟨z1, z2⟩ := hosz ops[k] (List.getElem_mem hkl)
    obtain ⟨BA, bcap, KA, kcap, e1, q1, q2, q3, q4, q5, q6, q7⟩ := hoe k ops[k] (List.getElem?_eq_getElem hkl)
    generalize ops[k] = o at *
    have hcs4 := hso.grow gW
    have hkb : k * 4 < cs.length := by omega
    repeat (first | refine WL.nil ?_ | refine WL.auto (h := ?_) | refine WL.gskip rfl rfl rfl rfl ?_ | refine WL.gauto (h := ?_) | (refine CW.seq ?_; intro K hK) | refine CW.block ?_ | refine CW.region ?_ | refine CW.skip ?_ | refine CW.exit ?_ | refine CW.ret ?_ | (refine thn_ret (K := K) ?_; clear hK K) | refine thn_ret ?_ | refine blk_ret ?_ | (refine thn_exit (K := K) ?_; clear hK K) | refine thn_exit ?_ | refine blk_here ?_ | refine blk_past rfl ?_ | refine thn_norm ?_ | refine blk_norm ?_ | refine CW.condT rfl ?_ | refine CW.condF rfl ?_ | (refine hK _ _ ?_; clear hK K))
    first | refine WL.step rfl ?_ | refine WL.gstep rfl rfl rfl rfl ?_
    refine OpW.indexAddr k rfl rfl rfl hkl (sl_ne hcs4 hkb) (sl_sp hcs4 hkb) ?_
    repeat (first | refine WL.nil ?_ | refine WL.auto (h := ?_) | refine WL.gskip rfl rfl rfl rfl ?_ | refine WL.gauto (h := ?_) | (refine CW.seq ?_; intro K hK) | refine CW.block ?_ | refine CW.region ?_ | refine CW.skip ?_ | refine CW.exit ?_ | refine CW.ret ?_ | (refine thn_ret (K := K) ?_; clear hK K) | refine thn_ret ?_ | refine blk_ret ?_ | (refine thn_exit (K := K) ?_; clear hK K) | refine thn_exit ?_ | refine blk_here ?_ | refine blk_past rfl ?_ | refine thn_norm ?_ | refine blk_norm ?_ | refine CW.condT rfl ?_ | refine CW.condF rfl ?_ | (refine hK _ _ ?_; clear hK K))
    first | refine WL.step rfl ?_ | refine WL.gstep rfl rfl rfl rfl ?_
    refine OpW.loadAggS _ rfl hcs4 e1 rfl (by decide) ?_
    repeat (first | refine WL.nil ?_ | refine WL.auto (h := ?_) | refine WL.gskip rfl rfl rfl rfl ?_ | refine WL.gauto (h := ?_) | (refine CW.seq ?_; intro K hK) | refine CW.block ?_ | refine CW.region ?_ | refine CW.skip ?_ | refine CW.exit ?_ | refine CW.ret ?_ | (refine thn_ret (K := K) ?_; clear hK K) | refine thn_ret ?_ | refine blk_ret ?_ | (refine thn_exit (K := K) ?_; clear hK K) | refine thn_exit ?_ | refine blk_here ?_ | refine blk_past rfl ?_ | refine thn_norm ?_ | refine blk_norm ?_ | refine CW.condT rfl ?_ | refine CW.condF rfl ?_ | (refine hK _ _ ?_; clear hK K))
    first | refine WL.step rfl ?_ | refine WL.gstep rfl rfl rfl rfl ?_
    refine OpW.alloc (fun b3 w5 n5 => ?_)
    repeat (first | refine WL.nil ?_ | refine WL.auto (h := ?_) | refine WL.gskip rfl rfl rfl rfl ?_ | refine WL.gauto (h := ?_) | (refine CW.seq ?_; intro K hK) | refine CW.block ?_ | refine CW.region ?_ | refine CW.skip ?_ | refine CW.exit ?_ | refine CW.ret ?_ | (refine thn_ret (K := K) ?_; clear hK K) | refine thn_ret ?_ | refine blk_ret ?_ | (refine thn_exit (K := K) ?_; clear hK K) | refine thn_exit ?_ | refine blk_here ?_ | refine blk_past rfl ?_ | refine thn_norm ?_ | refine blk_norm ?_ | refine CW.condT rfl ?_ | refine CW.condF rfl ?_ | (refine hK _ _ ?_; clear hK K))
    refine WL.step0 ?_
    refine OpW.storeAll rfl rfl rfl n5.blk rfl rfl (fun w6 p6 hb => ?_)
    have g6 : Grow w4 w6 := n5.grow.chgNew p6.chg (fun i hi h => by subst h; have := n5.fresh; omega)
    have h6 := h4.more g6
    have gW6 := gW.then g6
    have hb3 : w4.heap.size ≤ b3 := n5.fresh
    have hlt3 : b3 < w6.heap.size := Blk.lt hb
    have zW : W.heap.size ≤ w4.heap.size := gW.size
    have H6 := H4.step (X' := fun k => X k ∨ w4.heap.size ≤ k ∧ k < w6.heap.size) (c' := fun b => if b < w4.heap.size then c b else 3) g6 (fun _ _ _ _ h => h) (fun _ h => Or.inl h) (fun b hb => if_pos hb)
    have N6 := N4.step (X' := fun k => X k ∨ w4.heap.size ≤ k ∧ k < w6.heap.size) (c' := fun b => if b < w4.heap.size then c b else 3) g6 (fun _ _ _ _ h => h) (fun _ h => Or.inl h) (fun b hb => if_pos hb)
    obtain ⟨X6, hX6⟩ : ∃ X6, X6 = (fun k => X k ∨ w4.heap.size ≤ k ∧ k < w6.heap.size) := ⟨_, rfl⟩
    obtain ⟨c6, hc6⟩ : ∃ c6, c6 = (fun b => if b < w4.heap.size then c b else 3) := ⟨_, rfl⟩
    have xb3 : X6 b3 := by rw [hX6]; exact Or.inr ⟨hb3, hlt3⟩
    have cb3 : c6 b3 = 3 := by rw [hc6]; exact if_neg (by omega)
    rw [← hX6] at h6 H6 N6
    rw [← hc6] at H6 N6
    clear H4 N4 h4 hX6 hc6
    repeat (first | refine WL.nil ?_ | refine WL.auto (h := ?_) | refine WL.gskip rfl rfl rfl rfl ?_ | refine WL.gauto (h := ?_) | (refine CW.seq ?_; intro K hK) | refine CW.block ?_ | refine CW.region ?_ | refine CW.skip ?_ | refine CW.exit ?_ | refine CW.ret ?_ | (refine thn_ret (K := K) ?_; clear hK K) | refine thn_ret ?_ | refine blk_ret ?_ | (refine thn_exit (K := K) ?_; clear hK K) | refine thn_exit ?_ | refine blk_here ?_ | refine blk_past rfl ?_ | refine thn_norm ?_ | refine blk_norm ?_ | refine CW.condT rfl ?_ | refine CW.condF rfl ?_ | (refine hK _ _ ?_; clear hK K))
    by_cases k1 : o.kind = 1
    · rw [decide_eq_true k1]
      rcases N6 with ⟨hoff, hD, rfl | ⟨nb, n, rfl, hn6, xnb, wnb, cnb⟩⟩ | ⟨hL, rfl, nb, rfl, hn6, xnb, wnb, cnb⟩
      · repeat (first | refine WL.nil ?_ | refine WL.auto (h := ?_) | refine WL.gskip rfl rfl rfl rfl ?_ | refine WL.gauto (h := ?_) | (refine CW.seq ?_; intro K hK) | refine CW.block ?_ | refine CW.region ?_ | refine CW.skip ?_ | refine CW.exit ?_ | refine CW.ret ?_ | (refine thn_ret (K := K) ?_; clear hK K) | refine thn_ret ?_ | refine blk_ret ?_ | (refine thn_exit (K := K) ?_; clear hK K) | refine thn_exit ?_ | refine blk_here ?_ | refine blk_past rfl ?_ | refine thn_norm ?_ | refine blk_norm ?_ | refine CW.condT rfl ?_ | refine CW.condF rfl ?_ | (refine hK _ _ ?_; clear hK K))
        exact hJ (ops.length - (k + 1)) _ _ (by omega) ⟨k + 1, db, d, S, u, under, X6, c6, RA, rcap, UA, uc, none, by omega, rfl, hf.le (by omega), h6, H6, Or.inl ⟨hoff, hD, Or.inl rfl⟩, hSl, hul, by omega, gW6, rep8 rfl rfl rfl rfl rfl rfl rfl (congrArg (Value.int .i64) (by omega))⟩
      · repeat (first | refine WL.nil ?_ | refine WL.auto (h := ?_) | refine WL.gskip rfl rfl rfl rfl ?_ | refine WL.gauto (h := ?_) | (refine CW.seq ?_; intro K hK) | refine CW.block ?_ | refine CW.region ?_ | refine CW.skip ?_ | refine CW.exit ?_ | refine CW.ret ?_ | (refine thn_ret (K := K) ?_; clear hK K) | refine thn_ret ?_ | refine blk_ret ?_ | (refine thn_exit (K := K) ?_; clear hK K) | refine thn_exit ?_ | refine blk_here ?_ | refine blk_past rfl ?_ | refine thn_norm ?_ | refine blk_norm ?_ | refine CW.condT rfl ?_ | refine CW.condF rfl ?_ | (refine hK _ _ ?_; clear hK K))
        first | refine WL.step rfl ?_ | refine WL.gstep rfl rfl rfl rfl ?_
        refine OpW.call ((sick64 hn6).mono ?_) rfl
        rintro v w7 ⟨rfl, g7⟩
        repeat (first | refine WL.nil ?_ | refine WL.auto (h := ?_) | refine WL.gskip rfl rfl rfl rfl ?_ | refine WL.gauto (h := ?_) | (refine CW.seq ?_; intro K hK) | refine CW.block ?_ | refine CW.region ?_ | refine CW.skip ?_ | refine CW.exit ?_ | refine CW.ret ?_ | (refine thn_ret (K := K) ?_; clear hK K) | refine thn_ret ?_ | refine blk_ret ?_ | (refine thn_exit (K := K) ?_; clear hK K) | refine thn_exit ?_ | refine blk_here ?_ | refine blk_past rfl ?_ | refine thn_norm ?_ | refine blk_norm ?_ | refine CW.condT rfl ?_ | refine CW.condF rfl ?_ | (refine hK _ _ ?_; clear hK K))
        exact hJ (ops.length - (k + 1)) _ _ (by omega) ⟨k + 1, db, d, S, u, under, X6, c6, RA, rcap, UA, uc, _, by omega, rfl, hf.le (by omega), h6.grow g7, H6.step g7 (fun _ _ _ _ h => h) (fun _ h => h) (fun _ _ => rfl), Or.inl ⟨hoff, hD, Or.inr ⟨nb, n, rfl, Blk.grow hn6 g7, xnb, wnb, cnb⟩⟩, hSl, hul, by omega, gW6.then g7, rep8 rfl rfl rfl rfl rfl rfl rfl (congrArg (Value.int .i64) (by omega))⟩
      · repeat (first | refine WL.nil ?_ | refine WL.auto (h := ?_) | refine WL.gskip rfl rfl rfl rfl ?_ | refine WL.gauto (h := ?_) | (refine CW.seq ?_; intro K hK) | refine CW.block ?_ | refine CW.region ?_ | refine CW.skip ?_ | refine CW.exit ?_ | refine CW.ret ?_ | (refine thn_ret (K := K) ?_; clear hK K) | refine thn_ret ?_ | refine blk_ret ?_ | (refine thn_exit (K := K) ?_; clear hK K) | refine thn_exit ?_ | refine blk_here ?_ | refine blk_past rfl ?_ | refine thn_norm ?_ | refine blk_norm ?_ | refine CW.condT rfl ?_ | refine CW.condF rfl ?_ | (refine hK _ _ ?_; clear hK K))
        first | refine WL.step rfl ?_ | refine WL.gstep rfl rfl rfl rfl ?_
        refine OpW.call ((sick64 hn6).mono ?_) rfl
        rintro v w7 ⟨rfl, g7⟩
        have h7 := h6.grow g7
        have hn7 : IsNode w7 nb db S.length false := Blk.grow hn6 g7
        replace hb := hb.grow g7
        have H7 := H6.step (X' := X6) (c' := c6) g7 (fun _ _ _ _ h => h) (fun _ h => h) (fun _ _ => rfl)
        have gW7 := gW6.then g7
        repeat (first | refine WL.nil ?_ | refine WL.auto (h := ?_) | refine WL.gskip rfl rfl rfl rfl ?_ | refine WL.gauto (h := ?_) | (refine CW.seq ?_; intro K hK) | refine CW.block ?_ | refine CW.region ?_ | refine CW.skip ?_ | refine CW.exit ?_ | refine CW.ret ?_ | (refine thn_ret (K := K) ?_; clear hK K) | refine thn_ret ?_ | refine blk_ret ?_ | (refine thn_exit (K := K) ?_; clear hK K) | refine thn_exit ?_ | refine blk_here ?_ | refine blk_past rfl ?_ | refine thn_norm ?_ | refine blk_norm ?_ | refine CW.condT rfl ?_ | refine CW.condF rfl ?_ | (refine hK _ _ ?_; clear hK K))
        first | refine WL.step rfl ?_ | refine WL.gstep rfl rfl rfl rfl ?_
        refine OpW.call ((put62 h7 hn7 xnb (q1.grow gW7) (fun hne a ha => H6.base _ (q1.lt (ne_bvs hne) ha)) hf (by omega) z1 (by omega)).mono ?_) rfl
        rintro v w8 hv
        rw [if_neg (by simp)] at hv
        obtain ⟨rfl, h8, hn8, c8⟩ := hv
        have gW8 := base_grow2 H6.base wnb gW7 c8
        have hf8 := hf.nput o.b
        have H8 := H7.step (X' := X6) (c' := c6) c8 (fun b hX _ hc h => h.elim (fun h => h hX) (fun e => by rw [e] at hc; omega)) (fun _ h => h) (fun _ _ => rfl)
        have hb8 := hb.keep c8 (fun h => h.elim (fun h => h xb3) (fun e => by rw [e] at cb3; omega))
        rcases hL.put o.b with ⟨ep, hL'⟩ | ⟨ep, hoff, hD⟩
        · rw [ep, if_pos rfl, decide_eq_false (by simp)] at hn8
          rw [ep]
          repeat (first | refine WL.nil ?_ | refine WL.auto (h := ?_) | refine WL.gskip rfl rfl rfl rfl ?_ | refine WL.gauto (h := ?_) | (refine CW.seq ?_; intro K hK) | refine CW.block ?_ | refine CW.region ?_ | refine CW.skip ?_ | refine CW.exit ?_ | refine CW.ret ?_ | (refine thn_ret (K := K) ?_; clear hK K) | refine thn_ret ?_ | refine blk_ret ?_ | (refine thn_exit (K := K) ?_; clear hK K) | refine thn_exit ?_ | refine blk_here ?_ | refine blk_past rfl ?_ | refine thn_norm ?_ | refine blk_norm ?_ | refine CW.condT rfl ?_ | refine CW.condF rfl ?_ | (refine hK _ _ ?_; clear hK K))
          first | refine WL.step rfl ?_ | refine WL.gstep rfl rfl rfl rfl ?_
          refine OpW.buildNone (fun b9 w9 n9 => ?_)
          replace hb8 := hb8.grow n9.grow
          repeat (first | refine WL.nil ?_ | refine WL.auto (h := ?_) | refine WL.gskip rfl rfl rfl rfl ?_ | refine WL.gauto (h := ?_) | (refine CW.seq ?_; intro K hK) | refine CW.block ?_ | refine CW.region ?_ | refine CW.skip ?_ | refine CW.exit ?_ | refine CW.ret ?_ | (refine thn_ret (K := K) ?_; clear hK K) | refine thn_ret ?_ | refine blk_ret ?_ | (refine thn_exit (K := K) ?_; clear hK K) | refine thn_exit ?_ | refine blk_here ?_ | refine blk_past rfl ?_ | refine thn_norm ?_ | refine blk_norm ?_ | refine CW.condT rfl ?_ | refine CW.condF rfl ?_ | (refine hK _ _ ?_; clear hK K))
          first | refine WL.step rfl ?_ | refine WL.gstep rfl rfl rfl rfl ?_
          refine OpW.appB (w0 := w8) (l := []) (m := o.b) rfl rfl rfl rfl rfl rfl (Own.empty n9) ((q1.grow gW8).grow n9.grow) n9.grow (by simp; omega) (fun A10 c10 w10 o10 g10 _ => ?_)
          rw [List.nil_append] at o10 ⊢
          repeat (first | refine WL.nil ?_ | refine WL.auto (h := ?_) | refine WL.gskip rfl rfl rfl rfl ?_ | refine WL.gauto (h := ?_) | (refine CW.seq ?_; intro K hK) | refine CW.block ?_ | refine CW.region ?_ | refine CW.skip ?_ | refine CW.exit ?_ | refine CW.ret ?_ | (refine thn_ret (K := K) ?_; clear hK K) | refine thn_ret ?_ | refine blk_ret ?_ | (refine thn_exit (K := K) ?_; clear hK K) | refine thn_exit ?_ | refine blk_here ?_ | refine blk_past rfl ?_ | refine thn_norm ?_ | refine blk_norm ?_ | refine CW.condT rfl ?_ | refine CW.condF rfl ?_ | (refine hK _ _ ?_; clear hK K))
          first | refine WL.step rfl ?_ | refine WL.gstep rfl rfl rfl rfl ?_
          refine OpW.buildLit [.slice A10 o.b.length c10] rfl rfl rfl (lit1 _ rfl) ?_
          intro b11 w11 n11
          obtain ⟨cells, col, r1, r2⟩ := H8.rows
          repeat (first | refine WL.nil ?_ | refine WL.auto (h := ?_) | refine WL.gskip rfl rfl rfl rfl ?_ | refine WL.gauto (h := ?_) | (refine CW.seq ?_; intro K hK) | refine CW.block ?_ | refine CW.region ?_ | refine CW.skip ?_ | refine CW.exit ?_ | refine CW.ret ?_ | (refine thn_ret (K := K) ?_; clear hK K) | refine thn_ret ?_ | refine blk_ret ?_ | (refine thn_exit (K := K) ?_; clear hK K) | refine thn_exit ?_ | refine blk_here ?_ | refine blk_past rfl ?_ | refine thn_norm ?_ | refine blk_norm ?_ | refine CW.condT rfl ?_ | refine CW.condF rfl ?_ | (refine hK _ _ ?_; clear hK K))
          first | refine WL.step rfl ?_ | refine WL.gstep rfl rfl rfl rfl ?_
          refine OpW.append (ys := [.slice A10 o.b.length c10]) rfl rfl rfl (r1.grow (g10.then n11.grow)) (blk_sl_lit n11) rfl (one1 _ rfl) ⟨by omega, by omega⟩ (fun RA' rcap' w12 o12 c12 _ => ?_)
          have hrows := RowsAt.snoc r1 r2 g10 o10 n11.grow o12 c12
          have ra : ∀ b, (∃ a, RA = some a ∧ a.block = b) → X6 b ∧ W.heap.size ≤ b ∧ c6 b = 0 := by
            rintro b ⟨a, ha, rfl⟩
            exact (r1.in_ ha).1.1
          have cc : Chg (fun b => X6 b ∧ W.heap.size ≤ b ∧ c6 b = 0) w8 w12 := Grow.chg (g10.then n11.grow) (c12.mono fun b _ hb => ra b hb)
          have h12 := h8.wide (cc.mono fun b _ hb => hb.1)
          have zW8 : W.heap.size ≤ w8.heap.size := gW8.size
          repeat (first | refine WL.nil ?_ | refine WL.auto (h := ?_) | refine WL.gskip rfl rfl rfl rfl ?_ | refine WL.gauto (h := ?_) | (refine CW.seq ?_; intro K hK) | refine CW.block ?_ | refine CW.region ?_ | refine CW.skip ?_ | refine CW.exit ?_ | refine CW.ret ?_ | (refine thn_ret (K := K) ?_; clear hK K) | refine thn_ret ?_ | refine blk_ret ?_ | (refine thn_exit (K := K) ?_; clear hK K) | refine thn_exit ?_ | refine blk_here ?_ | refine blk_past rfl ?_ | refine thn_norm ?_ | refine blk_norm ?_ | refine CW.condT rfl ?_ | refine CW.condF rfl ?_ | (refine hK _ _ ?_; clear hK K))
          refine hJ (ops.length - (k + 1)) _ _ (by omega) ⟨k + 1, db, _, S ++ [o.b], u, false, _, fun b => if b < w8.heap.size then c6 b else 0, RA', rcap', UA, uc, some ⟨nb, 0, none⟩, by omega, rfl, hf8.le (by omega), h12, ⟨fun b hb => Or.inl (H8.base b hb), hrows.zone fun b _ hz => ?_, H8.last.keepN cc fun hne a ha hb => ?_, fun hne a ha => ?_⟩, Or.inr ⟨hL', rfl, nb, rfl, ?_, Or.inl xnb, wnb, ?_⟩, ?_, hul, by simp; omega, gW8.chgNew cc (fun i hi hb => by omega), rep8 rfl rfl (congrArg (fun n => Value.slice RA' n rcap') (by simp)) rfl rfl rfl rfl (congrArg (Value.int .i64) (by omega))⟩
          · rcases hz with ⟨⟨y1, y2, y3⟩, y4⟩ | ⟨y1, y2⟩
            · exact ⟨Or.inl y1, y2, by show (if _ then _ else _) = _; rw [if_pos y4]; exact y3⟩
            · exact ⟨Or.inr ⟨y1, y2⟩, by omega, by show (if _ then _ else _) = _; rw [if_neg (by omega)]⟩
          · have := (H8.lastX (by intro e; rw [e] at hne; exact hne rfl) a ha).2.2
            have := hb.2.2
            omega
          · have y := H8.lastX hne a ha
            have y4 := H8.last.lt (ne_bvs hne) ha
            exact ⟨Or.inl y.1, y.2.1, by show (if _ then _ else _) = _; rw [if_pos y4]; exact y.2.2⟩
          · rw [List.length_append]
            exact Blk.keep hn8 cc (fun hb => by have := hb.2.2; omega)
          · show (if _ then _ else _) = _
            rw [if_pos (Blk.lt hn8)]; exact cnb
          · intro r hr
            rcases List.mem_append.1 hr with hr | hr
            · exact hSl r hr
            · rw [List.mem_singleton.1 hr]; exact z1
        · rw [ep, if_neg (by decide), decide_eq_true (by decide)] at hn8
          rw [ep]
          repeat (first | refine WL.nil ?_ | refine WL.auto (h := ?_) | refine WL.gskip rfl rfl rfl rfl ?_ | refine WL.gauto (h := ?_) | (refine CW.seq ?_; intro K hK) | refine CW.block ?_ | refine CW.region ?_ | refine CW.skip ?_ | refine CW.exit ?_ | refine CW.ret ?_ | (refine thn_ret (K := K) ?_; clear hK K) | refine thn_ret ?_ | refine blk_ret ?_ | (refine thn_exit (K := K) ?_; clear hK K) | refine thn_exit ?_ | refine blk_here ?_ | refine blk_past rfl ?_ | refine thn_norm ?_ | refine blk_norm ?_ | refine CW.condT rfl ?_ | refine CW.condF rfl ?_ | (refine hK _ _ ?_; clear hK K))
          first | refine WL.step rfl ?_ | refine WL.gstep rfl rfl rfl rfl ?_
          refine OpW.buildNone (fun b9 w9 n9 => ?_)
          replace hb8 := hb8.grow n9.grow
          repeat (first | refine WL.nil ?_ | refine WL.auto (h := ?_) | refine WL.gskip rfl rfl rfl rfl ?_ | refine WL.gauto (h := ?_) | (refine CW.seq ?_; intro K hK) | refine CW.block ?_ | refine CW.region ?_ | refine CW.skip ?_ | refine CW.exit ?_ | refine CW.ret ?_ | (refine thn_ret (K := K) ?_; clear hK K) | refine thn_ret ?_ | refine blk_ret ?_ | (refine thn_exit (K := K) ?_; clear hK K) | refine thn_exit ?_ | refine blk_here ?_ | refine blk_past rfl ?_ | refine thn_norm ?_ | refine blk_norm ?_ | refine CW.condT rfl ?_ | refine CW.condF rfl ?_ | (refine hK _ _ ?_; clear hK K))
          first | refine WL.step rfl ?_ | refine WL.gstep rfl rfl rfl rfl ?_
          refine OpW.appB (w0 := w8) (l := []) (m := o.b) rfl rfl rfl rfl rfl rfl (Own.empty n9) ((q1.grow gW8).grow n9.grow) n9.grow (by simp; omega) (fun A10 c10 w10 o10 g10 _ => ?_)
          rw [List.nil_append] at o10 ⊢
          have zW8 : W.heap.size ≤ w8.heap.size := gW8.size
          have H10 := H8.step (X' := fun k => X6 k ∨ w8.heap.size ≤ k ∧ k < w10.heap.size) (c' := fun b => if b < w8.heap.size then c6 b else 1) g10 (fun _ _ _ _ h => h) (fun _ h => Or.inl h) (fun b hb => if_pos hb)
          repeat (first | refine WL.nil ?_ | refine WL.auto (h := ?_) | refine WL.gskip rfl rfl rfl rfl ?_ | refine WL.gauto (h := ?_) | (refine CW.seq ?_; intro K hK) | refine CW.block ?_ | refine CW.region ?_ | refine CW.skip ?_ | refine CW.exit ?_ | refine CW.ret ?_ | (refine thn_ret (K := K) ?_; clear hK K) | refine thn_ret ?_ | refine blk_ret ?_ | (refine thn_exit (K := K) ?_; clear hK K) | refine thn_exit ?_ | refine blk_here ?_ | refine blk_past rfl ?_ | refine thn_norm ?_ | refine blk_norm ?_ | refine CW.condT rfl ?_ | refine CW.condF rfl ?_ | (refine hK _ _ ?_; clear hK K))
          refine hJ (ops.length - (k + 1)) _ _ (by omega) ⟨k + 1, db, _, S, o.b, true, _, fun b => if b < w8.heap.size then c6 b else 1, RA, rcap, A10, c10, some ⟨nb, 0, none⟩, by omega, rfl, hf8.le (by omega), h8.more g10, ⟨H10.base, H10.rows, o10.sl, fun hne a ha => ?_⟩, Or.inl ⟨hoff, hD, Or.inr ⟨nb, _, rfl, Blk.grow hn8 g10, Or.inl xnb, wnb, ?_⟩⟩, hSl, z1, by omega, gW8.then g10, rep8 rfl rfl rfl rfl rfl rfl rfl (congrArg (Value.int .i64) (by omega))⟩
          · have y := o10.in_ ha
            have y1 : w8.heap.size ≤ a.block := y.1
            exact ⟨Or.inr ⟨y1, y.2⟩, by omega, by show (if _ then _ else _) = _; rw [if_neg (by omega)]⟩
          · show (if _ then _ else _) = _
            rw [if_pos (Blk.lt hn8)]; exact cnb
    rw [decide_eq_false k1]
    repeat (first | refine WL.nil ?_ | refine WL.auto (h := ?_) | refine WL.gskip rfl rfl rfl rfl ?_ | refine WL.gauto (h := ?_) | (refine CW.seq ?_; intro K hK) | refine CW.block ?_ | refine CW.region ?_ | refine CW.skip ?_ | refine CW.exit ?_ | refine CW.ret ?_ | (refine thn_ret (K := K) ?_; clear hK K) | refine thn_ret ?_ | refine blk_ret ?_ | (refine thn_exit (K := K) ?_; clear hK K) | refine thn_exit ?_ | refine blk_here ?_ | refine blk_past rfl ?_ | refine thn_norm ?_ | refine blk_norm ?_ | refine CW.condT rfl ?_ | refine CW.condF rfl ?_ | (refine hK _ _ ?_; clear hK K))
    by_cases k2 : o.kind = 2
    · rw [decide_eq_true k2]
      repeat (first | refine WL.nil ?_ | refine WL.auto (h := ?_) | refine WL.gskip rfl rfl rfl rfl ?_ | refine WL.gauto (h := ?_) | (refine CW.seq ?_; intro K hK) | refine CW.block ?_ | refine CW.region ?_ | refine CW.skip ?_ | refine CW.exit ?_ | refine CW.ret ?_ | (refine thn_ret (K := K) ?_; clear hK K) | refine thn_ret ?_ | refine blk_ret ?_ | (refine thn_exit (K := K) ?_; clear hK K) | refine thn_exit ?_ | refine blk_here ?_ | refine blk_past rfl ?_ | refine thn_norm ?_ | refine blk_norm ?_ | refine CW.condT rfl ?_ | refine CW.condF rfl ?_ | (refine hK _ _ ?_; clear hK K))
      first | refine WL.step rfl ?_ | refine WL.gstep rfl rfl rfl rfl ?_
      refine OpW.call ((armOD h6 o.n).mono ?_) rfl
      rintro v w7 ⟨h7, c7⟩
      have H7 := H6.step (X' := X6) (c' := c6) c7 (fun b hX _ _ h => h hX) (fun _ h => h) (fun _ _ => rfl)
      have N7 := N6.step (X' := X6) (c' := c6) c7 (fun b hX _ _ h => h hX) (fun _ h => h) (fun _ _ => rfl)
      have N7' : NodeNow W w7 X6 c6 np db (d.arm o.n) S under u := by
        rcases N7 with ⟨y1, y2⟩ | ⟨y1, y2⟩
        · rw [show d.arm o.n = d from by unfold PD.arm; rw [if_pos y1]]
          exact Or.inl ⟨y1, y2⟩
        · exact Or.inr ⟨y1.arm o.n, y2⟩
      repeat (first | refine WL.nil ?_ | refine WL.auto (h := ?_) | refine WL.gskip rfl rfl rfl rfl ?_ | refine WL.gauto (h := ?_) | (refine CW.seq ?_; intro K hK) | refine CW.block ?_ | refine CW.region ?_ | refine CW.skip ?_ | refine CW.exit ?_ | refine CW.ret ?_ | (refine thn_ret (K := K) ?_; clear hK K) | refine thn_ret ?_ | refine blk_ret ?_ | (refine thn_exit (K := K) ?_; clear hK K) | refine thn_exit ?_ | refine blk_here ?_ | refine blk_past rfl ?_ | refine thn_norm ?_ | refine blk_norm ?_ | refine CW.condT rfl ?_ | refine CW.condF rfl ?_ | (refine hK _ _ ?_; clear hK K))
      exact hJ (ops.length - (k + 1)) _ _ (by omega) ⟨k + 1, db, _, S, u, under, X6, c6, RA, rcap, UA, uc, np, by omega, rfl, (hf.arm' o.n q7.2).le (by omega), h7, H7, N7', hSl, hul, by omega, base_grow H6.base gW6 c7, rep8 rfl rfl rfl rfl rfl rfl rfl (congrArg (Value.int .i64) (by omega))⟩
    rw [decide_eq_false k2]
    repeat (first | refine WL.nil ?_ | refine WL.auto (h := ?_) | refine WL.gskip rfl rfl rfl rfl ?_ | refine WL.gauto (h := ?_) | (refine CW.seq ?_; intro K hK) | refine CW.block ?_ | refine CW.region ?_ | refine CW.skip ?_ | refine CW.exit ?_ | refine CW.ret ?_ | (refine thn_ret (K := K) ?_; clear hK K) | refine thn_ret ?_ | refine blk_ret ?_ | (refine thn_exit (K := K) ?_; clear hK K) | refine thn_exit ?_ | refine blk_here ?_ | refine blk_past rfl ?_ | refine thn_norm ?_ | refine blk_norm ?_ | refine CW.condT rfl ?_ | refine CW.condF rfl ?_ | (refine hK _ _ ?_; clear hK K))
    by_cases k3 : o.kind = 3
    · rw [decide_eq_true k3]
      obtain ⟨c1, c2, c3⟩ := crash_load hf o.keep
      have hcl16 : (crashAll d.files o.keep).1.length ≤ 16 := by rw [crashAll_length]; exact hf.good.len
      have hWh := N6.k.crash o.keep o.n
      have hf9 := c2.arm' o.n q7.2
      repeat (first | refine WL.nil ?_ | refine WL.auto (h := ?_) | refine WL.gskip rfl rfl rfl rfl ?_ | refine WL.gauto (h := ?_) | (refine CW.seq ?_; intro K hK) | refine CW.block ?_ | refine CW.region ?_ | refine CW.skip ?_ | refine CW.exit ?_ | refine CW.ret ?_ | (refine thn_ret (K := K) ?_; clear hK K) | refine thn_ret ?_ | refine blk_ret ?_ | (refine thn_exit (K := K) ?_; clear hK K) | refine thn_exit ?_ | refine blk_here ?_ | refine blk_past rfl ?_ | refine thn_norm ?_ | refine blk_norm ?_ | refine CW.condT rfl ?_ | refine CW.condF rfl ?_ | (refine hK _ _ ?_; clear hK K))
      first | refine WL.step rfl ?_ | refine WL.gstep rfl rfl rfl rfl ?_
      refine OpW.call ((crashOD h6 KA kcap o.keep hf (by omega) (q4.grow gW6) (by omega) q5).mono ?_) rfl
      rintro v w7 ⟨g7, OA7, oc7, rfl, o7⟩
      have h7 := h6.grow g7
      generalize hcr : (crashAll d.files o.keep).1 = ys at *
      have c3' : ∀ x ∈ ys, x.1.length ≤ 1099511627776 ∧ x.2.length ≤ 1099511627776 := fun x hx => by have := c3 x hx; omega
      repeat (first | refine WL.nil ?_ | refine WL.auto (h := ?_) | refine WL.gskip rfl rfl rfl rfl ?_ | refine WL.gauto (h := ?_) | (refine CW.seq ?_; intro K hK) | refine CW.block ?_ | refine CW.region ?_ | refine CW.skip ?_ | refine CW.exit ?_ | refine CW.ret ?_ | (refine thn_ret (K := K) ?_; clear hK K) | refine thn_ret ?_ | refine blk_ret ?_ | (refine thn_exit (K := K) ?_; clear hK K) | refine thn_exit ?_ | refine blk_here ?_ | refine blk_past rfl ?_ | refine thn_norm ?_ | refine blk_norm ?_ | refine CW.condT rfl ?_ | refine CW.condF rfl ?_ | (refine hK _ _ ?_; clear hK K))
      first | refine WL.step rfl ?_ | refine WL.gstep rfl rfl rfl rfl ?_
      refine OpW.call ((loadOD h7 _ _ _ _ _ o7 (by omega) c3' c1).mono ?_) rfl
      rintro v w8 ⟨db', rfl, g8, h8⟩
      replace hb := hb.grow (g7.then g8)
      have gW8 := gW6.then (g7.then g8)
      have H8 := H6.step (X' := X6) (c' := c6) (g7.then g8) (fun _ _ _ _ h => h) (fun _ h => h) (fun _ _ => rfl)
      clear hf h6 h7 N6 H6 o7 c1 c2 c3 c3' hcr
      repeat (first | refine WL.nil ?_ | refine WL.auto (h := ?_) | refine WL.gskip rfl rfl rfl rfl ?_ | refine WL.gauto (h := ?_) | (refine CW.seq ?_; intro K hK) | refine CW.block ?_ | refine CW.region ?_ | refine CW.skip ?_ | refine CW.exit ?_ | refine CW.ret ?_ | (refine thn_ret (K := K) ?_; clear hK K) | refine thn_ret ?_ | refine blk_ret ?_ | (refine thn_exit (K := K) ?_; clear hK K) | refine thn_exit ?_ | refine blk_here ?_ | refine blk_past rfl ?_ | refine thn_norm ?_ | refine blk_norm ?_ | refine CW.condT rfl ?_ | refine CW.condF rfl ?_ | (refine hK _ _ ?_; clear hK K))
      first | refine WL.step rfl ?_ | refine WL.gstep rfl rfl rfl rfl ?_
      refine OpW.call ((armOD h8 o.n).mono ?_) rfl
      rintro v w9 ⟨h9, c9⟩
      generalize PD.arm ⟨ys.map toPF, false, 0⟩ o.n = d1 at *
      have gW9 := base_grow H8.base gW8 c9
      have H9 := H8.step (X' := X6) (c' := c6) c9 (fun b hX _ _ h => h hX) (fun _ h => h) (fun _ _ => rfl)
      replace hb := hb.keep c9 (fun h => h xb3)
      clear h8 H8
      repeat (first | refine WL.nil ?_ | refine WL.auto (h := ?_) | refine WL.gskip rfl rfl rfl rfl ?_ | refine WL.gauto (h := ?_) | (refine CW.seq ?_; intro K hK) | refine CW.block ?_ | refine CW.region ?_ | refine CW.skip ?_ | refine CW.exit ?_ | refine CW.ret ?_ | (refine thn_ret (K := K) ?_; clear hK K) | refine thn_ret ?_ | refine blk_ret ?_ | (refine thn_exit (K := K) ?_; clear hK K) | refine thn_exit ?_ | refine blk_here ?_ | refine blk_past rfl ?_ | refine thn_norm ?_ | refine blk_norm ?_ | refine CW.condT rfl ?_ | refine CW.condF rfl ?_ | (refine hK _ _ ?_; clear hK K))
      first | refine WL.step rfl ?_ | refine WL.gstep rfl rfl rfl rfl ?_
      refine OpW.call ((open61 h9 hf9 (by omega)).mono ?_) rfl
      rintro v w10 ⟨hi, hhi, h10, c10, hv⟩
      have gW10 := base_grow H9.base gW9 c10
      have zW9 : W.heap.size ≤ w9.heap.size := gW9.size
      have hf10 := hf9.nopen
      have hul' : ∀ r, (if under = true then some u else none) = some r → r.length < 18446744073709551616 := fun r hr => by
        cases under with
        | false => cases hr
        | true => cases hr; omega
      rcases hWh.open_ (fun r hr => by have := hSl r hr; omega) hul' with ⟨R, d', e, hLR, hR⟩ | ⟨d', e, hoff, hD⟩
      · rw [e] at h10 hv hf10
        obtain ⟨nb, RA1, rcap1, rfl, hn10, n1, n2, hrec⟩ := hv
        simp only at h10 hf10
        have hRS : R.take S.length = S ∧ S.length ≤ R.length ∧ R.length ≤ S.length + 1 := by
          rcases hR with rfl | ⟨r, _, rfl⟩
          · exact ⟨List.take_length, Nat.le_refl _, by omega⟩
          · exact ⟨List.take_left' rfl, by simp, by simp⟩
        have hrl : R.length ≤ rcap1 := by
          obtain ⟨_, _, y, _⟩ := hrec
          exact y.le
        have hsame := fun w' (g : Grow w10 w') (x : RowsIn w' RA S) => same66 (ca := rcap1) (cb := rcap) ((hrec.in_.grow g).take S.length) x (by rw [hRS.1]; omega)
        rw [hRS.1] at hsame
        have H10 := H9.step (X' := fun k => X6 k ∨ w9.heap.size ≤ k ∧ k < hi) (c' := fun b => if b < w9.heap.size then c6 b else if b = nb then 2 else 0) c10 (fun b hX _ _ h => h hX) (fun _ h => Or.inl h) (fun b hb => if_pos hb)
        have xnb : (fun k => X6 k ∨ w9.heap.size ≤ k ∧ k < hi) nb := Or.inr ⟨n1, n2⟩
        have cnb : (fun b => if b < w9.heap.size then c6 b else if b = nb then 2 else 0) nb = 2 := by
          show (if _ then _ else _) = _
          rw [if_neg (by omega), if_pos rfl]
        repeat (first | refine WL.nil ?_ | refine WL.auto (h := ?_) | refine WL.gskip rfl rfl rfl rfl ?_ | refine WL.gskipU rfl rfl rfl rfl ?_ | refine WL.gauto (h := ?_) | (refine CW.seq ?_; intro K hK) | refine CW.block ?_ | refine CW.region ?_ | refine CW.skip ?_ | refine CW.exit ?_ | refine CW.ret ?_ | (refine thn_ret (K := K) ?_; clear hK K) | refine thn_ret ?_ | refine blk_ret ?_ | (refine thn_exit (K := K) ?_; clear hK K) | refine thn_exit ?_ | refine blk_here ?_ | refine blk_past rfl ?_ | refine thn_norm ?_ | refine blk_norm ?_ | refine CW.condT rfl ?_ | refine CW.condF rfl ?_ | (refine hK _ _ ?_; clear hK K))
        rw [decide_eq_false (p := (R.length : Int) < (S.length : Int)) (by omega)]
        repeat (first | refine WL.nil ?_ | refine WL.auto (h := ?_) | refine WL.gskip rfl rfl rfl rfl ?_ | refine WL.gskipU rfl rfl rfl rfl ?_ | refine WL.gauto (h := ?_) | (refine CW.seq ?_; intro K hK) | refine CW.block ?_ | refine CW.region ?_ | refine CW.skip ?_ | refine CW.exit ?_ | refine CW.ret ?_ | (refine thn_ret (K := K) ?_; clear hK K) | refine thn_ret ?_ | refine blk_ret ?_ | (refine thn_exit (K := K) ?_; clear hK K) | refine thn_exit ?_ | refine blk_here ?_ | refine blk_past rfl ?_ | refine thn_norm ?_ | refine blk_norm ?_ | refine CW.condT rfl ?_ | refine CW.condF rfl ?_ | (refine hK _ _ ?_; clear hK K))
        first | refine WL.step rfl ?_ | refine WL.gstep rfl rfl rfl rfl ?_
        refine OpW.sliceHi S.length rfl rfl rfl (by omega) ?_
        repeat (first | refine WL.nil ?_ | refine WL.auto (h := ?_) | refine WL.gskip rfl rfl rfl rfl ?_ | refine WL.gskipU rfl rfl rfl rfl ?_ | refine WL.gauto (h := ?_) | (refine CW.seq ?_; intro K hK) | refine CW.block ?_ | refine CW.region ?_ | refine CW.skip ?_ | refine CW.exit ?_ | refine CW.ret ?_ | (refine thn_ret (K := K) ?_; clear hK K) | refine thn_ret ?_ | refine blk_ret ?_ | (refine thn_exit (K := K) ?_; clear hK K) | refine thn_exit ?_ | refine blk_here ?_ | refine blk_past rfl ?_ | refine thn_norm ?_ | refine blk_norm ?_ | refine CW.condT rfl ?_ | refine CW.condF rfl ?_ | (refine hK _ _ ?_; clear hK K))
        first | refine WL.step rfl ?_ | refine WL.gstep rfl rfl rfl rfl ?_
        refine OpW.call ((hsame w10 (Chg.refl _ _) H10.rows.in_).mono ?_) rfl
        rintro v w11 ⟨rfl, g11⟩
        rw [decide_eq_true (p := S = S) rfl]
        have h11 := h10.grow g11
        have H11 := H10.step (X' := fun k => X6 k ∨ w9.heap.size ≤ k ∧ k < hi) (c' := fun b => if b < w9.heap.size then c6 b else if b = nb then 2 else 0) g11 (fun _ _ _ _ h => h) (fun _ h => h) (fun _ _ => rfl)
        have hn11 : IsNode w11 nb db' R.length false := Blk.grow hn10 g11
        have gW11 := gW10.then g11
        repeat (first | refine WL.nil ?_ | refine WL.auto (h := ?_) | refine WL.gskip rfl rfl rfl rfl ?_ | refine WL.gskipU rfl rfl rfl rfl ?_ | refine WL.gauto (h := ?_) | (refine CW.seq ?_; intro K hK) | refine CW.block ?_ | refine CW.region ?_ | refine CW.skip ?_ | refine CW.exit ?_ | refine CW.ret ?_ | (refine thn_ret (K := K) ?_; clear hK K) | refine thn_ret ?_ | refine blk_ret ?_ | (refine thn_exit (K := K) ?_; clear hK K) | refine thn_exit ?_ | refine blk_here ?_ | refine blk_past rfl ?_ | refine thn_norm ?_ | refine blk_norm ?_ | refine CW.condT rfl ?_ | refine CW.condF rfl ?_ | (refine hK _ _ ?_; clear hK K))
        rcases hR with rfl | ⟨r, hU, rfl⟩
        · rw [decide_eq_false (p := (R.length : Int) < (R.length : Int)) (by omega)]
          repeat (first | refine WL.nil ?_ | refine WL.auto (h := ?_) | refine WL.gskip rfl rfl rfl rfl ?_ | refine WL.gauto (h := ?_) | (refine CW.seq ?_; intro K hK) | refine CW.block ?_ | refine CW.region ?_ | refine CW.skip ?_ | refine CW.exit ?_ | refine CW.ret ?_ | (refine thn_ret (K := K) ?_; clear hK K) | refine thn_ret ?_ | refine blk_ret ?_ | (refine thn_exit (K := K) ?_; clear hK K) | refine thn_exit ?_ | refine blk_here ?_ | refine blk_past rfl ?_ | refine thn_norm ?_ | refine blk_norm ?_ | refine CW.condT rfl ?_ | refine CW.condF rfl ?_ | (refine hK _ _ ?_; clear hK K))
          exact hJ (ops.length - (k + 1)) _ _ (by omega) ⟨k + 1, db', _, R, u, false, _, _, RA, rcap, UA, uc, some ⟨nb, 0, none⟩, by omega, rfl, hf10.le (by omega), h11, H11, Or.inr ⟨hLR, rfl, nb, rfl, hn11, xnb, by omega, cnb⟩, hSl, hul, by omega, gW11, rep8 rfl rfl rfl rfl rfl rfl rfl (congrArg (Value.int .i64) (by omega))⟩
        · obtain ⟨rfl, rfl⟩ : under = true ∧ u = r := by
            cases under with
            | false => cases hU
            | true => cases hU; exact ⟨rfl, rfl⟩
          have hrows := (hrec.at_.off hn10 (by decide) (by decide)).keep g11 (fun _ _ h => h)
          obtain ⟨cells, col, rA, rR⟩ := hrec
          obtain ⟨D, dc, e2, oD⟩ := rR S.length u (by simp)
          have sA := rA.sl.grow g11
          have sne := sl_ne sA (List.getElem?_eq_some_iff.1 e2).1
          have ssp := spot_own rA
          have sD := oD.sl.grow g11
          have hlS : ((S ++ [u]).length : Int) = (S.length : Int) + 1 := by simp
          rw [hlS, decide_eq_true (p := (S.length : Int) < (S.length : Int) + 1) (by omega)]
          repeat (first | refine WL.nil ?_ | refine WL.auto (h := ?_) | refine WL.gskip rfl rfl rfl rfl ?_ | refine WL.gauto (h := ?_) | (refine CW.seq ?_; intro K hK) | refine CW.block ?_ | refine CW.region ?_ | refine CW.skip ?_ | refine CW.exit ?_ | refine CW.ret ?_ | (refine thn_ret (K := K) ?_; clear hK K) | refine thn_ret ?_ | refine blk_ret ?_ | (refine thn_exit (K := K) ?_; clear hK K) | refine thn_exit ?_ | refine blk_here ?_ | refine blk_past rfl ?_ | refine thn_norm ?_ | refine blk_norm ?_ | refine CW.condT rfl ?_ | refine CW.condF rfl ?_ | (refine hK _ _ ?_; clear hK K))
          refine CW.quiet rfl (by kernel_rfl) ?_
          repeat (first | refine QL.nil ?_ | refine QL.auto (hn := ?_) | refine QL.gskip rfl rfl rfl rfl ?_ | refine QL.gauto (hn := ?_))
          rw [hlS, show decide (¬ (S.length : Int) + 1 = (S.length : Int) + 1) = false from by simp]
          repeat (first | refine QL.nil ?_ | refine QL.auto (hn := ?_) | refine QL.gskip rfl rfl rfl rfl ?_ | refine QL.gauto (hn := ?_))
          refine QL.gstep rfl rfl rfl rfl rfl (fun w hg => OpW.indexAddr S.length rfl rfl rfl (by simp) sne ssp ⟨rfl, rfl⟩) ?_
          refine QL.gstep rfl rfl rfl rfl rfl (fun w hg => OpW.loadS (v := .slice D u.length dc) rfl (sA.grow hg) (by simpa using e2) ⟨rfl, rfl⟩) ?_
          refine QL.gstep rfl rfl rfl rfl rfl (fun w hg => OpW.toStr rfl (sD.grow hg) rfl ⟨rfl, rfl⟩) ?_
          repeat (first | refine QL.nil ?_ | refine QL.auto (hn := ?_) | refine QL.gskip rfl rfl rfl rfl ?_ | refine QL.gauto (hn := ?_))
          refine QL.gstep rfl rfl rfl rfl rfl (fun w hg => OpW.toStr rfl (H11.last.grow hg) rfl ⟨rfl, rfl⟩) ?_
          repeat (first | refine QL.nil ?_ | refine QL.auto (hn := ?_) | refine QL.gskip rfl rfl rfl rfl ?_ | refine QL.gauto (hn := ?_))
          rw [show decide (¬ u = u) = false from by simp]
          repeat (first | refine QL.nil ?_ | refine QL.auto (hn := ?_) | refine QL.gskip rfl rfl rfl rfl ?_ | refine QL.gauto (hn := ?_))
          intro w12 g12
          have H12 := H11.step (X' := fun k => X6 k ∨ w9.heap.size ≤ k ∧ k < hi) (c' := fun b => if b < w9.heap.size then c6 b else if b = nb then 2 else 0) g12 (fun _ _ _ _ h => h) (fun _ h => h) (fun _ _ => rfl)
          repeat (first | refine WL.nil ?_ | refine WL.auto (h := ?_) | refine WL.gskip rfl rfl rfl rfl ?_ | refine WL.gauto (h := ?_) | (refine CW.seq ?_; intro K hK) | refine CW.block ?_ | refine CW.region ?_ | refine CW.skip ?_ | refine CW.exit ?_ | refine CW.ret ?_ | (refine thn_ret (K := K) ?_; clear hK K) | refine thn_ret ?_ | refine blk_ret ?_ | (refine thn_exit (K := K) ?_; clear hK K) | refine thn_exit ?_ | refine blk_here ?_ | refine blk_past rfl ?_ | refine thn_norm ?_ | refine blk_norm ?_ | refine CW.condT rfl ?_ | refine CW.condF rfl ?_ | (refine hK _ _ ?_; clear hK K))
          refine hJ (ops.length - (k + 1)) _ _ (by omega) ⟨k + 1, db', _, S ++ [u], u, false, fun k => X6 k ∨ w9.heap.size ≤ k ∧ k < hi, fun b => if b < w9.heap.size then c6 b else if b = nb then 2 else 0, RA1, rcap1, UA, uc, some ⟨nb, 0, none⟩, by omega, rfl, hf10.le (by omega), h11.grow g12, ⟨H12.base, (hrows.keep g12 (fun _ _ h => h)).zone fun b _ hz => ?_, H12.last, H12.lastX⟩, Or.inr ⟨hLR, rfl, nb, rfl, Blk.grow hn11 g12, xnb, by omega, cnb⟩, ?_, hul, by simp; omega, gW11.then g12, rep8 rfl rfl rfl rfl rfl rfl rfl (congrArg (Value.int .i64) (by omega))⟩
          · exact ⟨Or.inr hz.1, by omega, by show (if _ then _ else _) = _; rw [if_neg (by omega), if_neg hz.2]⟩
          · intro r hr
            rcases List.mem_append.1 hr with hr | hr
            · exact hSl r hr
            · rw [List.mem_singleton.1 hr]; exact hul
      · rw [e] at h10 hv hf10
        obtain rfl := hv
        simp only at h10 hf10
        have H10 := H9.step (X' := fun k => X6 k ∨ w9.heap.size ≤ k ∧ k < hi) (c' := fun b => if b < w9.heap.size then c6 b else 3) c10 (fun b hX _ _ h => h hX) (fun _ h => Or.inl h) (fun b hb => if_pos hb)
        repeat (first | refine WL.nil ?_ | refine WL.auto (h := ?_) | refine WL.gskip rfl rfl rfl rfl ?_ | refine WL.gskipU rfl rfl rfl rfl ?_ | refine WL.gauto (h := ?_) | (refine CW.seq ?_; intro K hK) | refine CW.block ?_ | refine CW.region ?_ | refine CW.skip ?_ | refine CW.exit ?_ | refine CW.ret ?_ | (refine thn_ret (K := K) ?_; clear hK K) | refine thn_ret ?_ | refine blk_ret ?_ | (refine thn_exit (K := K) ?_; clear hK K) | refine thn_exit ?_ | refine blk_here ?_ | refine blk_past rfl ?_ | refine thn_norm ?_ | refine blk_norm ?_ | refine CW.condT rfl ?_ | refine CW.condF rfl ?_ | (refine hK _ _ ?_; clear hK K))
        first | refine WL.step rfl ?_ | refine WL.gstep rfl rfl rfl rfl ?_
        refine OpW.call ((downOD h10).mono ?_) rfl
        rintro v w11 ⟨rfl, g11⟩
        rw [hoff]
        repeat (first | refine WL.nil ?_ | refine WL.auto (h := ?_) | refine WL.gskip rfl rfl rfl rfl ?_ | refine WL.gskipU rfl rfl rfl rfl ?_ | refine WL.gauto (h := ?_) | (refine CW.seq ?_; intro K hK) | refine CW.block ?_ | refine CW.region ?_ | refine CW.skip ?_ | refine CW.exit ?_ | refine CW.ret ?_ | (refine thn_ret (K := K) ?_; clear hK K) | refine thn_ret ?_ | refine blk_ret ?_ | (refine thn_exit (K := K) ?_; clear hK K) | refine thn_exit ?_ | refine blk_here ?_ | refine blk_past rfl ?_ | refine thn_norm ?_ | refine blk_norm ?_ | refine CW.condT rfl ?_ | refine CW.condF rfl ?_ | (refine hK _ _ ?_; clear hK K))
        exact hJ (ops.length - (k + 1)) _ _ (by omega) ⟨k + 1, db', _, S, u, under, _, _, RA, rcap, UA, uc, none, by omega, rfl, hf10.le (by omega), h10.grow g11, H10.step g11 (fun _ _ _ _ h => h) (fun _ h => h) (fun _ _ => rfl), Or.inl ⟨hoff, hD, Or.inl rfl⟩, hSl, hul, by omega, gW10.then g11, rep8 rfl rfl rfl rfl rfl rfl rfl (congrArg (Value.int .i64) (by omega))⟩
    · rw [decide_eq_false k3]
      repeat (first | refine WL.nil ?_ | refine WL.auto (h := ?_) | refine WL.gskip rfl rfl rfl rfl ?_ | refine WL.gauto (h := ?_) | (refine CW.seq ?_; intro K hK) | refine CW.block ?_ | refine CW.region ?_ | refine CW.skip ?_ | refine CW.exit ?_ | refine CW.ret ?_ | (refine thn_ret (K := K) ?_; clear hK K) | refine thn_ret ?_ | refine blk_ret ?_ | (refine thn_exit (K := K) ?_; clear hK K) | refine thn_exit ?_ | refine blk_here ?_ | refine blk_past rfl ?_ | refine thn_norm ?_ | refine blk_norm ?_ | refine CW.condT rfl ?_ | refine CW.condF rfl ?_ | (refine hK _ _ ?_; clear hK K))
      exact hJ (ops.length - (k + 1)) _ _ (by omega) ⟨k + 1, db, _, S, u, under, X6, c6, RA, rcap, UA, uc, np, by omega, rfl, hf.le (by omega), h6, H6, N6, hSl, hul, by omega, gW6, rep8 rfl rfl rfl rfl rfl rfl rfl (congrArg (Value.int .i64) (by omega))⟩
  · repeat (first | refine WL.nil ?_ | refine WL.auto (h := ?_) | refine WL.gskip rfl rfl rfl rfl ?_ | refine WL.gauto (h := ?_) | (refine CW.seq ?_; intro K hK) | refine CW.block ?_ | refine CW.region ?_ | refine CW.skip ?_ | refine CW.exit ?_ | refine CW.ret ?_ | (refine thn_ret (K := K) ?_; clear hK K) | refine thn_ret ?_ | refine blk_ret ?_ | (refine thn_exit (K := K) ?_; clear hK K) | refine thn_exit ?_ | refine blk_here ?_ | refine blk_past rfl ?_ | refine thn_norm ?_ | refine blk_norm ?_ | refine CW.condT rfl ?_ | refine CW.condF rfl ?_ | (refine hK _ _ ?_; clear hK K))
    exact out1 (v := .bool true) Try.results19 rfl ⟨rfl, gW⟩ (Or.inr rfl)
end B
end Go.Proofs.Ytlofcomnhecgfaa
/- NodeKeeps over what its argument reads as. -/
namespace Go.Proofs.Ytlofcomnhecgfaa
namespace B
set_option linter.unusedVariables false
set_option maxRecDepth 100000
section
variable {H : Type} {enc : TypeId × Value → H} {sp : Nat → Bool} {hd : Bool} {W : World} {base b0 : Nat}
theorem reads_NodeKeeps (W : World) {v0 : Value} {d0 : DataW H} {p0 : List MemPlace}
    (h0 : DataW.Trod enc Try.prog W b0 sp hd 91 v0 d0 p0) (o0 : Value.okWide Try.prog W .any base 91 v0) (hb : Rows.uptoBulkAll ([d0] ++ []) ≤ 1048576) :
    Ret Try.prog 19 #[v0] W fun v w' => v = .bool true ∧ Grow W w' := by
  rw [sum1'] at hb
  obtain ⟨ops, k1, k2, k3⟩ := arg_ops7 h0 o0
  exact nkeeps19 v0 ops W k1 (by omega) (by omega)
end
end B
end Go.Proofs.Ytlofcomnhecgfaa
