/- The walk of isthmuslaw06.DiskArms: it is true. Sizes are bounded. -/
import Derived.Test.YtlofcomnhecgfaaDiskJ
namespace Go.Proofs.Ytlofcomnhecgfaa
namespace B
attribute [local irreducible] OpW WL CW Ret Sl Blk thn blk outOf
set_option linter.unusedVariables false
set_option linter.unusedSimpArgs false
set_option maxRecDepth 4000

/-- A disk armed for the n-th operation, j operations on. -/
def ArmInv (n : Int) (j : Nat) (d : PD) : Prop := d.off = decide (1 ≤ n ∧ n ≤ j) ∧ d.armed = (n - j).toNat ∧ (d.files = [] ∨ ∃ x, d.files = [⟨[102], x, 0⟩] ∧ x.length ≤ j * 1048576)
theorem arm_step {n : Int} {j : Nat} {d : PD} {b : List UInt8} (h : ArmInv n j d) (hb : b.length ≤ 1048576) : (d.append [102] b).1 = (if n < 1 ∨ (j : Int) + 1 < n then 0 else 51) ∧ ArmInv n (j + 1) (d.append [102] b).2 := by
  obtain ⟨files, off, armed⟩ := d
  obtain ⟨h1, h2, h3⟩ := h
  simp only at h1 h2 h3
  have hf : ∀ off' armed', (∃ x, (⟨files, off', armed'⟩ : PD).files = [⟨[102], x, 0⟩] ∧ x.length ≤ j * 1048576) ∨ files = [] := fun _ _ => h3.symm
  have key : ∀ (e : Int) (off' : Bool) (armed' : Nat), (PD.begin ⟨files, off, armed⟩) = (true, e, ⟨files, off', armed'⟩) →
      (PD.append ⟨files, off, armed⟩ [102] b).1 = e ∧ (PD.append ⟨files, off, armed⟩ [102] b).2.off = off' ∧ (PD.append ⟨files, off, armed⟩ [102] b).2.armed = armed' ∧ ∃ x, (PD.append ⟨files, off, armed⟩ [102] b).2.files = [⟨[102], x, 0⟩] ∧ x.length ≤ (j + 1) * 1048576 := by
    intro e off' armed' hbg
    unfold PD.append
    rw [hbg]
    rcases h3 with rfl | ⟨x, rfl, hx⟩
    · refine ⟨rfl, rfl, rfl, b, rfl, by omega⟩
    · refine ⟨rfl, rfl, rfl, x ++ b, rfl, ?_⟩
      rw [List.length_append]; omega
  by_cases ho : 1 ≤ n ∧ n ≤ j
  · have hoff : off = true := by rw [h1]; exact decide_eq_true ho
    subst hoff
    have e1 : PD.append ⟨files, true, armed⟩ [102] b = (51, ⟨files, true, armed⟩) := rfl
    rw [e1]
    have q1 : ¬ (n < 1 ∨ (j : Int) + 1 < n) := by omega
    refine ⟨(if_neg q1).symm, (decide_eq_true (by omega)).symm, by show armed = _; rw [h2]; omega, h3.imp id ?_⟩
    rintro ⟨x, hx, hl⟩
    exact ⟨x, hx, Nat.le_trans hl (Nat.mul_le_mul_right _ (Nat.le_succ _))⟩
  · have hoff : off = false := by rw [h1]; exact decide_eq_false ho
    subst hoff
    by_cases ha : 0 < armed
    · by_cases ha1 : armed = 1
      · obtain ⟨k1, k2, k3, k4⟩ := key 51 true 0 (by simp [PD.begin, ha1])
        refine ⟨by rw [k1, if_neg (by omega)], by rw [k2]; exact (decide_eq_true (by omega)).symm, by rw [k3]; omega, Or.inr k4⟩
      · obtain ⟨k1, k2, k3, k4⟩ := key 0 false (armed - 1) (by simp [PD.begin, ha, ha1])
        refine ⟨by rw [k1, if_pos (by omega)], by rw [k2]; exact (decide_eq_false (by omega)).symm, by rw [k3]; omega, Or.inr k4⟩
    · obtain ⟨k1, k2, k3, k4⟩ := key 0 false armed (by simp [PD.begin, ha])
      refine ⟨by rw [k1, if_pos (by omega)], by rw [k2]; exact (decide_eq_false (by omega)).symm, by rw [k3]; omega, Or.inr k4⟩

theorem arms6 (n : Int) (A : Option Addr) (cap : Nat) (b : List UInt8) (W : World) (hs : Sl W A (bvs b)) (hl : b.length ≤ 1048576) (hn : -9223372036854775808 ≤ n ∧ n ≤ 9223372036854775807) :
    Ret Try.prog 6 #[.int .i64 n, .slice A b.length cap] W fun v w' => v = .bool true ∧ Grow W w' := by
  refine Ret.enter (fn := Try.f6) (N := 52) Try.func6 rfl Try.ntmps6 rfl ?_
  repeat (first | refine WL.nil ?_ | refine WL.auto (h := ?_) | refine WL.gskip rfl rfl rfl rfl ?_ | refine WL.gauto (h := ?_) | (refine CW.seq ?_; intro K hK) | refine CW.block ?_ | refine CW.region ?_ | refine CW.skip ?_ | refine CW.exit ?_ | refine CW.ret ?_ | (refine thn_ret (K := K) ?_; clear hK K) | refine thn_ret ?_ | refine blk_ret ?_ | (refine thn_exit (K := K) ?_; clear hK K) | refine thn_exit ?_ | refine blk_here ?_ | refine blk_past rfl ?_ | refine thn_norm ?_ | refine blk_norm ?_ | refine CW.condT rfl ?_ | refine CW.condF rfl ?_ | (refine hK _ _ ?_; clear hK K))
  first | refine WL.step rfl ?_ | refine WL.gstep rfl rfl rfl rfl ?_
  refine OpW.call ((newHD W).mono ?_) rfl
  rintro v w1 ⟨db, rfl, h1⟩
  repeat (first | refine WL.nil ?_ | refine WL.auto (h := ?_) | refine WL.gskip rfl rfl rfl rfl ?_ | refine WL.gauto (h := ?_) | (refine CW.seq ?_; intro K hK) | refine CW.block ?_ | refine CW.region ?_ | refine CW.skip ?_ | refine CW.exit ?_ | refine CW.ret ?_ | (refine thn_ret (K := K) ?_; clear hK K) | refine thn_ret ?_ | refine blk_ret ?_ | (refine thn_exit (K := K) ?_; clear hK K) | refine thn_exit ?_ | refine blk_here ?_ | refine blk_past rfl ?_ | refine thn_norm ?_ | refine blk_norm ?_ | refine CW.condT rfl ?_ | refine CW.condF rfl ?_ | (refine hK _ _ ?_; clear hK K))
  first | refine WL.step rfl ?_ | refine WL.gstep rfl rfl rfl rfl ?_
  refine OpW.call ((fixed31 w1).mono ?_) rfl
  rintro v w2 ⟨rfl, g2⟩
  have h2 := h1.grow g2
  repeat (first | refine WL.nil ?_ | refine WL.auto (h := ?_) | refine WL.gskip rfl rfl rfl rfl ?_ | refine WL.gauto (h := ?_) | (refine CW.seq ?_; intro K hK) | refine CW.block ?_ | refine CW.region ?_ | refine CW.skip ?_ | refine CW.exit ?_ | refine CW.ret ?_ | (refine thn_ret (K := K) ?_; clear hK K) | refine thn_ret ?_ | refine blk_ret ?_ | (refine thn_exit (K := K) ?_; clear hK K) | refine thn_exit ?_ | refine blk_here ?_ | refine blk_past rfl ?_ | refine thn_norm ?_ | refine blk_norm ?_ | refine CW.condT rfl ?_ | refine CW.condF rfl ?_ | (refine hK _ _ ?_; clear hK K))
  first | refine WL.step rfl ?_ | refine WL.gstep rfl rfl rfl rfl ?_
  refine OpW.call ((armHD h2 n).mono ?_) rfl
  rintro v w3 h3
  repeat (first | refine WL.nil ?_ | refine WL.auto (h := ?_) | refine WL.gskip rfl rfl rfl rfl ?_ | refine WL.gauto (h := ?_) | (refine CW.seq ?_; intro K hK) | refine CW.block ?_ | refine CW.region ?_ | refine CW.skip ?_ | refine CW.exit ?_ | refine CW.ret ?_ | (refine thn_ret (K := K) ?_; clear hK K) | refine thn_ret ?_ | refine blk_ret ?_ | (refine thn_exit (K := K) ?_; clear hK K) | refine thn_exit ?_ | refine blk_here ?_ | refine blk_past rfl ?_ | refine thn_norm ?_ | refine blk_norm ?_ | refine CW.condT rfl ?_ | refine CW.condF rfl ?_ | (refine hK _ _ ?_; clear hK K))
  refine CW.loop (fun n' e w4 => ∃ (j : Nat) (d : PD), j ≤ 12 ∧ n' = 12 - j ∧ ArmInv n j d ∧ HD W w4 db d ∧ ∃ e0, e = upd (upd (upd (upd e0 0 (.int .i64 n)) 1 (.slice A b.length cap)) 5 (.pointer (some ⟨db, 0, none⟩))) 6 (.int .i64 (j + 1))) 12 ?_ ?_
  · exact ⟨0, _, by omega, rfl, ⟨(decide_eq_false (by omega)).symm, by show n.toNat = _; omega, Or.inl rfl⟩, h3, rep4 rfl rfl rfl rfl⟩
  clear h1 h2 h3 g2
  rintro n' e w4 ⟨j, d, hj, rfl, hI, hd, e0, rfl⟩ KJ hJ
  repeat (first | refine WL.nil ?_ | refine WL.auto (h := ?_) | refine WL.gskip rfl rfl rfl rfl ?_ | refine WL.gauto (h := ?_) | (refine CW.seq ?_; intro K hK) | refine CW.block ?_ | refine CW.region ?_ | refine CW.skip ?_ | refine CW.exit ?_ | refine CW.ret ?_ | (refine thn_ret (K := K) ?_; clear hK K) | refine thn_ret ?_ | refine blk_ret ?_ | (refine thn_exit (K := K) ?_; clear hK K) | refine thn_exit ?_ | refine blk_here ?_ | refine blk_past rfl ?_ | refine thn_norm ?_ | refine blk_norm ?_ | refine CW.condT rfl ?_ | refine CW.condF rfl ?_ | (refine hK _ _ ?_; clear hK K))
  refine CW.condP rfl (fun h5 => ?_) (fun h5 => ?_)
  · have hfl : d.files.length ≤ 16 ∧ ∀ f ∈ d.files, f.data.length ≤ 1099511627776 := by
      rcases hI.2.2 with h | ⟨x, h, hx⟩
      · rw [h]; simp
      · rw [h]; simp; omega
    have ha : d.armed ≤ 9223372036854775807 := by rw [hI.2.1]; omega
    repeat (first | refine WL.nil ?_ | refine WL.auto (h := ?_) | refine WL.gskip rfl rfl rfl rfl ?_ | refine WL.gauto (h := ?_) | (refine CW.seq ?_; intro K hK) | refine CW.block ?_ | refine CW.region ?_ | refine CW.skip ?_ | refine CW.exit ?_ | refine CW.ret ?_ | (refine thn_ret (K := K) ?_; clear hK K) | refine thn_ret ?_ | refine blk_ret ?_ | (refine thn_exit (K := K) ?_; clear hK K) | refine thn_exit ?_ | refine blk_here ?_ | refine blk_past rfl ?_ | refine thn_norm ?_ | refine blk_norm ?_ | refine CW.condT rfl ?_ | refine CW.condF rfl ?_ | (refine hK _ _ ?_; clear hK K))
    first | refine WL.step rfl ?_ | refine WL.gstep rfl rfl rfl rfl ?_
    refine OpW.call ((appendHD hd (Chg.refl _ _) [102] b A cap ha hfl.1 (by decide) (hs.grow hd.g) (fun hne a ha => Or.inl (hs.lt (ne_bvs hne) ha)) (by omega) hfl.2).mono ?_) rfl
    rintro v w5 ⟨rfl, h6⟩
    obtain ⟨q1, q2⟩ := arm_step (b := b) hI hl
    generalize d.append [102] b = r at *
    obtain ⟨e1, d1⟩ := r
    simp only at h6 q1 q2
    subst q1
    have next : ∀ {e : Env}, (∃ e0, e = upd (upd (upd (upd e0 0 (.int .i64 n)) 1 (.slice A b.length cap)) 5 (.pointer (some ⟨db, 0, none⟩))) 6 (.int .i64 (((j + 1 : Nat) : Int) + 1))) → KJ e w5 := fun {e} he =>
      hJ (12 - (j + 1)) e w5 (by omega) ⟨j + 1, d1, by omega, rfl, q2, h6, he⟩
    by_cases c1 : n < 1
    · rw [if_pos (Or.inl c1)]
      repeat (first | refine WL.nil ?_ | refine WL.auto (h := ?_) | refine WL.gskip rfl rfl rfl rfl ?_ | refine WL.gauto (h := ?_) | (refine CW.seq ?_; intro K hK) | refine CW.block ?_ | refine CW.region ?_ | refine CW.skip ?_ | refine CW.exit ?_ | refine CW.ret ?_ | (refine thn_ret (K := K) ?_; clear hK K) | refine thn_ret ?_ | refine blk_ret ?_ | (refine thn_exit (K := K) ?_; clear hK K) | refine thn_exit ?_ | refine blk_here ?_ | refine blk_past rfl ?_ | refine thn_norm ?_ | refine blk_norm ?_ | refine CW.condT rfl ?_ | refine CW.condF rfl ?_ | (refine hK _ _ ?_; clear hK K))
      rw [decide_eq_true c1]
      repeat (first | refine WL.nil ?_ | refine WL.auto (h := ?_) | refine WL.gskip rfl rfl rfl rfl ?_ | refine WL.gauto (h := ?_) | (refine CW.seq ?_; intro K hK) | refine CW.block ?_ | refine CW.region ?_ | refine CW.skip ?_ | refine CW.exit ?_ | refine CW.ret ?_ | (refine thn_ret (K := K) ?_; clear hK K) | refine thn_ret ?_ | refine blk_ret ?_ | (refine thn_exit (K := K) ?_; clear hK K) | refine thn_exit ?_ | refine blk_here ?_ | refine blk_past rfl ?_ | refine thn_norm ?_ | refine blk_norm ?_ | refine CW.condT rfl ?_ | refine CW.condF rfl ?_ | (refine hK _ _ ?_; clear hK K))
      exact next (rep4 rfl rfl rfl (congrArg (Value.int .i64) (by omega)))
    · by_cases c2 : (j : Int) + 1 < n
      · rw [if_pos (Or.inr c2)]
        repeat (first | refine WL.nil ?_ | refine WL.auto (h := ?_) | refine WL.gskip rfl rfl rfl rfl ?_ | refine WL.gauto (h := ?_) | (refine CW.seq ?_; intro K hK) | refine CW.block ?_ | refine CW.region ?_ | refine CW.skip ?_ | refine CW.exit ?_ | refine CW.ret ?_ | (refine thn_ret (K := K) ?_; clear hK K) | refine thn_ret ?_ | refine blk_ret ?_ | (refine thn_exit (K := K) ?_; clear hK K) | refine thn_exit ?_ | refine blk_here ?_ | refine blk_past rfl ?_ | refine thn_norm ?_ | refine blk_norm ?_ | refine CW.condT rfl ?_ | refine CW.condF rfl ?_ | (refine hK _ _ ?_; clear hK K))
        rw [decide_eq_false c1]
        repeat (first | refine WL.nil ?_ | refine WL.auto (h := ?_) | refine WL.gskip rfl rfl rfl rfl ?_ | refine WL.gauto (h := ?_) | (refine CW.seq ?_; intro K hK) | refine CW.block ?_ | refine CW.region ?_ | refine CW.skip ?_ | refine CW.exit ?_ | refine CW.ret ?_ | (refine thn_ret (K := K) ?_; clear hK K) | refine thn_ret ?_ | refine blk_ret ?_ | (refine thn_exit (K := K) ?_; clear hK K) | refine thn_exit ?_ | refine blk_here ?_ | refine blk_past rfl ?_ | refine thn_norm ?_ | refine blk_norm ?_ | refine CW.condT rfl ?_ | refine CW.condF rfl ?_ | (refine hK _ _ ?_; clear hK K))
        rw [decide_eq_true c2]
        repeat (first | refine WL.nil ?_ | refine WL.auto (h := ?_) | refine WL.gskip rfl rfl rfl rfl ?_ | refine WL.gauto (h := ?_) | (refine CW.seq ?_; intro K hK) | refine CW.block ?_ | refine CW.region ?_ | refine CW.skip ?_ | refine CW.exit ?_ | refine CW.ret ?_ | (refine thn_ret (K := K) ?_; clear hK K) | refine thn_ret ?_ | refine blk_ret ?_ | (refine thn_exit (K := K) ?_; clear hK K) | refine thn_exit ?_ | refine blk_here ?_ | refine blk_past rfl ?_ | refine thn_norm ?_ | refine blk_norm ?_ | refine CW.condT rfl ?_ | refine CW.condF rfl ?_ | (refine hK _ _ ?_; clear hK K))
        exact next (rep4 rfl rfl rfl (congrArg (Value.int .i64) (by omega)))
      · rw [if_neg (by omega)]
        repeat (first | refine WL.nil ?_ | refine WL.auto (h := ?_) | refine WL.gskip rfl rfl rfl rfl ?_ | refine WL.gauto (h := ?_) | (refine CW.seq ?_; intro K hK) | refine CW.block ?_ | refine CW.region ?_ | refine CW.skip ?_ | refine CW.exit ?_ | refine CW.ret ?_ | (refine thn_ret (K := K) ?_; clear hK K) | refine thn_ret ?_ | refine blk_ret ?_ | (refine thn_exit (K := K) ?_; clear hK K) | refine thn_exit ?_ | refine blk_here ?_ | refine blk_past rfl ?_ | refine thn_norm ?_ | refine blk_norm ?_ | refine CW.condT rfl ?_ | refine CW.condF rfl ?_ | (refine hK _ _ ?_; clear hK K))
        rw [decide_eq_false c1]
        repeat (first | refine WL.nil ?_ | refine WL.auto (h := ?_) | refine WL.gskip rfl rfl rfl rfl ?_ | refine WL.gauto (h := ?_) | (refine CW.seq ?_; intro K hK) | refine CW.block ?_ | refine CW.region ?_ | refine CW.skip ?_ | refine CW.exit ?_ | refine CW.ret ?_ | (refine thn_ret (K := K) ?_; clear hK K) | refine thn_ret ?_ | refine blk_ret ?_ | (refine thn_exit (K := K) ?_; clear hK K) | refine thn_exit ?_ | refine blk_here ?_ | refine blk_past rfl ?_ | refine thn_norm ?_ | refine blk_norm ?_ | refine CW.condT rfl ?_ | refine CW.condF rfl ?_ | (refine hK _ _ ?_; clear hK K))
        rw [decide_eq_false c2]
        repeat (first | refine WL.nil ?_ | refine WL.auto (h := ?_) | refine WL.gskip rfl rfl rfl rfl ?_ | refine WL.gauto (h := ?_) | (refine CW.seq ?_; intro K hK) | refine CW.block ?_ | refine CW.region ?_ | refine CW.skip ?_ | refine CW.exit ?_ | refine CW.ret ?_ | (refine thn_ret (K := K) ?_; clear hK K) | refine thn_ret ?_ | refine blk_ret ?_ | (refine thn_exit (K := K) ?_; clear hK K) | refine thn_exit ?_ | refine blk_here ?_ | refine blk_past rfl ?_ | refine thn_norm ?_ | refine blk_norm ?_ | refine CW.condT rfl ?_ | refine CW.condF rfl ?_ | (refine hK _ _ ?_; clear hK K))
        exact next (rep4 rfl rfl rfl (congrArg (Value.int .i64) (by omega)))
  · obtain rfl : j = 12 := by omega
    repeat (first | refine WL.nil ?_ | refine WL.auto (h := ?_) | refine WL.gskip rfl rfl rfl rfl ?_ | refine WL.gauto (h := ?_) | (refine CW.seq ?_; intro K hK) | refine CW.block ?_ | refine CW.region ?_ | refine CW.skip ?_ | refine CW.exit ?_ | refine CW.ret ?_ | (refine thn_ret (K := K) ?_; clear hK K) | refine thn_ret ?_ | refine blk_ret ?_ | (refine thn_exit (K := K) ?_; clear hK K) | refine thn_exit ?_ | refine blk_here ?_ | refine blk_past rfl ?_ | refine thn_norm ?_ | refine blk_norm ?_ | refine CW.condT rfl ?_ | refine CW.condF rfl ?_ | (refine hK _ _ ?_; clear hK K))
    first | refine WL.step rfl ?_ | refine WL.gstep rfl rfl rfl rfl ?_
    refine OpW.call ((downHD hd).mono ?_) rfl
    rintro v w5 ⟨rfl, g5⟩
    rw [hI.1]
    by_cases c1 : 1 ≤ n
    · repeat (first | refine WL.nil ?_ | refine WL.auto (h := ?_) | refine WL.gskip rfl rfl rfl rfl ?_ | refine WL.gauto (h := ?_) | (refine CW.seq ?_; intro K hK) | refine CW.block ?_ | refine CW.region ?_ | refine CW.skip ?_ | refine CW.exit ?_ | refine CW.ret ?_ | (refine thn_ret (K := K) ?_; clear hK K) | refine thn_ret ?_ | refine blk_ret ?_ | (refine thn_exit (K := K) ?_; clear hK K) | refine thn_exit ?_ | refine blk_here ?_ | refine blk_past rfl ?_ | refine thn_norm ?_ | refine blk_norm ?_ | refine CW.condT rfl ?_ | refine CW.condF rfl ?_ | (refine hK _ _ ?_; clear hK K))
      rw [decide_eq_true c1]
      repeat (first | refine WL.nil ?_ | refine WL.auto (h := ?_) | refine WL.gskip rfl rfl rfl rfl ?_ | refine WL.gauto (h := ?_) | (refine CW.seq ?_; intro K hK) | refine CW.block ?_ | refine CW.region ?_ | refine CW.skip ?_ | refine CW.exit ?_ | refine CW.ret ?_ | (refine thn_ret (K := K) ?_; clear hK K) | refine thn_ret ?_ | refine blk_ret ?_ | (refine thn_exit (K := K) ?_; clear hK K) | refine thn_exit ?_ | refine blk_here ?_ | refine blk_past rfl ?_ | refine thn_norm ?_ | refine blk_norm ?_ | refine CW.condT rfl ?_ | refine CW.condF rfl ?_ | (refine hK _ _ ?_; clear hK K))
      refine out1 (v := .bool true) Try.results6 (congrArg Value.bool ?_) ⟨rfl, hd.g.then g5⟩ (Or.inr rfl)
      rw [beq_iff_eq, decide_eq_decide]
      constructor
      · intro h; exact h.2
      · intro h; exact ⟨c1, h⟩
    · repeat (first | refine WL.nil ?_ | refine WL.auto (h := ?_) | refine WL.gskip rfl rfl rfl rfl ?_ | refine WL.gauto (h := ?_) | (refine CW.seq ?_; intro K hK) | refine CW.block ?_ | refine CW.region ?_ | refine CW.skip ?_ | refine CW.exit ?_ | refine CW.ret ?_ | (refine thn_ret (K := K) ?_; clear hK K) | refine thn_ret ?_ | refine blk_ret ?_ | (refine thn_exit (K := K) ?_; clear hK K) | refine thn_exit ?_ | refine blk_here ?_ | refine blk_past rfl ?_ | refine thn_norm ?_ | refine blk_norm ?_ | refine CW.condT rfl ?_ | refine CW.condF rfl ?_ | (refine hK _ _ ?_; clear hK K))
      rw [decide_eq_false c1]
      repeat (first | refine WL.nil ?_ | refine WL.auto (h := ?_) | refine WL.gskip rfl rfl rfl rfl ?_ | refine WL.gauto (h := ?_) | (refine CW.seq ?_; intro K hK) | refine CW.block ?_ | refine CW.region ?_ | refine CW.skip ?_ | refine CW.exit ?_ | refine CW.ret ?_ | (refine thn_ret (K := K) ?_; clear hK K) | refine thn_ret ?_ | refine blk_ret ?_ | (refine thn_exit (K := K) ?_; clear hK K) | refine thn_exit ?_ | refine blk_here ?_ | refine blk_past rfl ?_ | refine thn_norm ?_ | refine blk_norm ?_ | refine CW.condT rfl ?_ | refine CW.condF rfl ?_ | (refine hK _ _ ?_; clear hK K))
      refine out1 (v := .bool true) Try.results6 (congrArg Value.bool ?_) ⟨rfl, hd.g.then g5⟩ (Or.inr rfl)
      rw [beq_iff_eq, decide_eq_false_iff_not]
      exact fun h => c1 h.1
end B
end Go.Proofs.Ytlofcomnhecgfaa
