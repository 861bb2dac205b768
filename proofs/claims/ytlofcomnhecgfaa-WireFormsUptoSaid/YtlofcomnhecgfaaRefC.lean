/- The document's reader's calls: the same answers as the plain reader's. Sizes are bounded. -/
import Derived.Test.YtlofcomnhecgfaaRefB
namespace Go.Proofs.Ytlofcomnhecgfaa
namespace B
attribute [local irreducible] OpW WL CW Ret Sl Blk thn blk outOf
set_option linter.unusedVariables false
set_option linter.unusedSimpArgs false

theorem rNum_bad {L : List UInt8} {bad : Int} {a n : Nat} (h : bad ≠ 0) : rNum (L, bad) a n = (0, false, (L, bad)) := by unfold rNum; rw [if_pos h]
theorem rNum_short {L : List UInt8} {a n : Nat} (h : L.length < a + n) : rNum (L, 0) a n = (0, false, (L, 20)) := by unfold rNum; rw [if_neg (by simp), if_pos h]
theorem rNum_good {L : List UInt8} {a n : Nat} (h : ¬ L.length < a + n) : rNum (L, 0) a n = (numOf ((L.drop a).take n), true, (L, 0)) := by unfold rNum; rw [if_neg (by simp), if_neg h]

theorem N77 (rb : Nat) (s : RS) (Z : Nat → Prop) (w : World) (hr : Rf w rb s Z) : Ret Try.prog 77 #[.pointer (some ⟨rb, 0, none⟩)] w fun v w' => v = .int .u64 ((rN s).1 : Int) ∧ Rf w' rb (rN s).2 Z ∧ Chg (· = rb) w w' := by
  obtain ⟨L, bad⟩ := s
  obtain ⟨A, cap, hr⟩ := hr
  simp only at hr
  refine Ret.enter (fn := Try.f77) (N := 14) Try.func77 rfl Try.ntmps77 rfl ?_
  repeat (first | refine WL.nil ?_ | refine WL.auto (h := ?_) | refine WL.gskip rfl rfl rfl rfl ?_ | refine WL.gauto (h := ?_) | (refine CW.seq ?_; intro K hK) | refine CW.block ?_ | refine CW.region ?_ | refine CW.skip ?_ | refine CW.exit ?_ | refine CW.ret ?_ | (refine thn_ret (K := K) ?_; clear hK K) | refine thn_ret ?_ | refine blk_ret ?_ | (refine thn_exit (K := K) ?_; clear hK K) | refine thn_exit ?_ | refine blk_here ?_ | refine blk_past rfl ?_ | refine thn_norm ?_ | refine blk_norm ?_ | refine CW.condT rfl ?_ | refine CW.condF rfl ?_ | (refine hK _ _ ?_; clear hK K))
  first | refine WL.step rfl ?_ | refine WL.gstep rfl rfl rfl rfl ?_
  refine OpW.call ((take100 rb A cap L bad Z 8 w hr (by omega)).mono ?_) rfl
  have hh := hr
  obtain ⟨hb, hs, hA, hcap, hL⟩ := hh
  rintro v w1 ⟨hc, ⟨h1, rfl, hr1⟩ | ⟨rfl, h1, rfl, hr1⟩ | ⟨rfl, h1, rfl, B, hr1⟩⟩
  · have e1 : rN (L, bad) = (0, (L, bad)) := by unfold rN; rw [rNum_bad h1]; rfl
    repeat (first | refine WL.nil ?_ | refine WL.auto (h := ?_) | refine WL.gskip rfl rfl rfl rfl ?_ | refine WL.gauto (h := ?_) | (refine CW.seq ?_; intro K hK) | refine CW.block ?_ | refine CW.region ?_ | refine CW.skip ?_ | refine CW.exit ?_ | refine CW.ret ?_ | (refine thn_ret (K := K) ?_; clear hK K) | refine thn_ret ?_ | refine blk_ret ?_ | (refine thn_exit (K := K) ?_; clear hK K) | refine thn_exit ?_ | refine blk_here ?_ | refine blk_past rfl ?_ | refine thn_norm ?_ | refine blk_norm ?_ | refine CW.condT rfl ?_ | refine CW.condF rfl ?_ | (refine hK _ _ ?_; clear hK K))
    refine out1 (v := .int .u64 0) Try.results77 rfl ?_ (Or.inr rfl)
    rw [e1]
    exact ⟨rfl, ⟨A, cap, hr1⟩, hc⟩
  · have e1 : rN (L, 0) = (0, (L, 20)) := by unfold rN; rw [rNum_short (by omega)]; rfl
    repeat (first | refine WL.nil ?_ | refine WL.auto (h := ?_) | refine WL.gskip rfl rfl rfl rfl ?_ | refine WL.gauto (h := ?_) | (refine CW.seq ?_; intro K hK) | refine CW.block ?_ | refine CW.region ?_ | refine CW.skip ?_ | refine CW.exit ?_ | refine CW.ret ?_ | (refine thn_ret (K := K) ?_; clear hK K) | refine thn_ret ?_ | refine blk_ret ?_ | (refine thn_exit (K := K) ?_; clear hK K) | refine thn_exit ?_ | refine blk_here ?_ | refine blk_past rfl ?_ | refine thn_norm ?_ | refine blk_norm ?_ | refine CW.condT rfl ?_ | refine CW.condF rfl ?_ | (refine hK _ _ ?_; clear hK K))
    refine out1 (v := .int .u64 0) Try.results77 rfl ?_ (Or.inr rfl)
    rw [e1]
    exact ⟨rfl, ⟨A, cap, hr1⟩, hc⟩
  · have e1 : rN (L, 0) = (numOf (L.take 8), (L.drop 8, 0)) := by unfold rN; rw [rNum_good (by omega)]; rfl
    repeat (first | refine WL.nil ?_ | refine WL.auto (h := ?_) | refine WL.gskip rfl rfl rfl rfl ?_ | refine WL.gauto (h := ?_) | (refine CW.seq ?_; intro K hK) | refine CW.block ?_ | refine CW.region ?_ | refine CW.skip ?_ | refine CW.exit ?_ | refine CW.ret ?_ | (refine thn_ret (K := K) ?_; clear hK K) | refine thn_ret ?_ | refine blk_ret ?_ | (refine thn_exit (K := K) ?_; clear hK K) | refine thn_exit ?_ | refine blk_here ?_ | refine blk_past rfl ?_ | refine thn_norm ?_ | refine blk_norm ?_ | refine CW.condT rfl ?_ | refine CW.condF rfl ?_ | (refine hK _ _ ?_; clear hK K))
    first | refine WL.step rfl ?_ | refine WL.gstep rfl rfl rfl rfl ?_
    have hs1 : Sl w1 A (bvs (L.take 8)) := by
      have := (hs.keep hc fun a ha => (hA a ha).2.2).take 8
      rwa [bvs_take] at this
    have h8 : (L.take 8).length = 8 := by simp; omega
    have hN := number101 A cap (L.take 8) w1 hs1 (by omega)
    rw [h8] at hN
    refine OpW.call (hN.mono ?_) rfl
    rintro v w2 ⟨rfl, g2⟩
    repeat (first | refine WL.nil ?_ | refine WL.auto (h := ?_) | refine WL.gskip rfl rfl rfl rfl ?_ | refine WL.gauto (h := ?_) | (refine CW.seq ?_; intro K hK) | refine CW.block ?_ | refine CW.region ?_ | refine CW.skip ?_ | refine CW.exit ?_ | refine CW.ret ?_ | (refine thn_ret (K := K) ?_; clear hK K) | refine thn_ret ?_ | refine blk_ret ?_ | (refine thn_exit (K := K) ?_; clear hK K) | refine thn_exit ?_ | refine blk_here ?_ | refine blk_past rfl ?_ | refine thn_norm ?_ | refine blk_norm ?_ | refine CW.condT rfl ?_ | refine CW.condF rfl ?_ | (refine hK _ _ ?_; clear hK K))
    refine out1 Try.results77 rfl ?_ (Or.inr rfl)
    rw [e1]
    exact ⟨rfl, Rf.grow ⟨B, cap - 8, hr1⟩ g2, hc.grow g2⟩

theorem Err82 (rb : Nat) (s : RS) (Z : Nat → Prop) (w : World) (hr : Rf w rb s Z) : Ret Try.prog 82 #[.pointer (some ⟨rb, 0, none⟩)] w fun v w' => v = .int .i64 s.2 ∧ Grow w w' := by
  obtain ⟨A, cap, hb, hs, hA, hcap, hL⟩ := hr
  refine Ret.enter (fn := Try.f82) (N := 7) Try.func82 rfl Try.ntmps82 rfl ?_
  repeat (first | refine WL.nil ?_ | refine WL.auto (h := ?_) | refine WL.gskip rfl rfl rfl rfl ?_ | refine WL.gauto (h := ?_) | (refine CW.seq ?_; intro K hK) | refine CW.block ?_ | refine CW.region ?_ | refine CW.skip ?_ | refine CW.exit ?_ | refine CW.ret ?_ | (refine thn_ret (K := K) ?_; clear hK K) | refine thn_ret ?_ | refine blk_ret ?_ | (refine thn_exit (K := K) ?_; clear hK K) | refine thn_exit ?_ | refine blk_here ?_ | refine blk_past rfl ?_ | refine thn_norm ?_ | refine blk_norm ?_ | refine CW.condT rfl ?_ | refine CW.condF rfl ?_ | (refine hK _ _ ?_; clear hK K))
  exact out1 Try.results82 rfl ⟨rfl, Chg.refl _ _⟩ (Or.inr rfl)
theorem Left52 (rb : Nat) (s : RS) (Z : Nat → Prop) (w : World) (hr : Rf w rb s Z) : Ret Try.prog 52 #[.pointer (some ⟨rb, 0, none⟩)] w fun v w' => v = .int .i64 (s.1.length : Int) ∧ Grow w w' := by
  obtain ⟨A, cap, hb, hs, hA, hcap, hL⟩ := hr
  refine Ret.enter (fn := Try.f52) (N := 8) Try.func52 rfl Try.ntmps52 rfl ?_
  repeat (first | refine WL.nil ?_ | refine WL.auto (h := ?_) | refine WL.gskip rfl rfl rfl rfl ?_ | refine WL.gauto (h := ?_) | (refine CW.seq ?_; intro K hK) | refine CW.block ?_ | refine CW.region ?_ | refine CW.skip ?_ | refine CW.exit ?_ | refine CW.ret ?_ | (refine thn_ret (K := K) ?_; clear hK K) | refine thn_ret ?_ | refine blk_ret ?_ | (refine thn_exit (K := K) ?_; clear hK K) | refine thn_exit ?_ | refine blk_here ?_ | refine blk_past rfl ?_ | refine thn_norm ?_ | refine blk_norm ?_ | refine CW.condT rfl ?_ | refine CW.condF rfl ?_ | (refine hK _ _ ?_; clear hK K))
  exact out1 Try.results52 rfl ⟨rfl, Chg.refl _ _⟩ (Or.inr rfl)
theorem End53 (rb : Nat) (s : RS) (Z : Nat → Prop) (w : World) (hr : Rf w rb s Z) : Ret Try.prog 53 #[.pointer (some ⟨rb, 0, none⟩)] w fun v w' => v = .int .i64 (rEnd s) ∧ Grow w w' := by
  obtain ⟨L, bad⟩ := s
  obtain ⟨A, cap, hb, hs, hA, hcap, hL⟩ := hr
  simp only at hb hs hcap hL
  refine Ret.enter (fn := Try.f53) (N := 20) Try.func53 rfl Try.ntmps53 rfl ?_
  by_cases h1 : bad = 0
  · subst h1
    repeat (first | refine WL.nil ?_ | refine WL.auto (h := ?_) | refine WL.gskip rfl rfl rfl rfl ?_ | refine WL.gauto (h := ?_) | (refine CW.seq ?_; intro K hK) | refine CW.block ?_ | refine CW.region ?_ | refine CW.skip ?_ | refine CW.exit ?_ | refine CW.ret ?_ | (refine thn_ret (K := K) ?_; clear hK K) | refine thn_ret ?_ | refine blk_ret ?_ | (refine thn_exit (K := K) ?_; clear hK K) | refine thn_exit ?_ | refine blk_here ?_ | refine blk_past rfl ?_ | refine thn_norm ?_ | refine blk_norm ?_ | refine CW.condT rfl ?_ | refine CW.condF rfl ?_ | (refine hK _ _ ?_; clear hK K))
    refine CW.condP rfl (fun h2 => ?_) (fun h2 => ?_)
    · repeat (first | refine WL.nil ?_ | refine WL.auto (h := ?_) | refine WL.gskip rfl rfl rfl rfl ?_ | refine WL.gauto (h := ?_) | (refine CW.seq ?_; intro K hK) | refine CW.block ?_ | refine CW.region ?_ | refine CW.skip ?_ | refine CW.exit ?_ | refine CW.ret ?_ | (refine thn_ret (K := K) ?_; clear hK K) | refine thn_ret ?_ | refine blk_ret ?_ | (refine thn_exit (K := K) ?_; clear hK K) | refine thn_exit ?_ | refine blk_here ?_ | refine blk_past rfl ?_ | refine thn_norm ?_ | refine blk_norm ?_ | refine CW.condT rfl ?_ | refine CW.condF rfl ?_ | (refine hK _ _ ?_; clear hK K))
      refine out1 (v := .int .i64 23) Try.results53 rfl ⟨?_, Chg.refl _ _⟩ (Or.inr rfl)
      have : L ≠ [] := fun h => by subst h; simp at h2
      simp [rEnd, this]
    · repeat (first | refine WL.nil ?_ | refine WL.auto (h := ?_) | refine WL.gskip rfl rfl rfl rfl ?_ | refine WL.gauto (h := ?_) | (refine CW.seq ?_; intro K hK) | refine CW.block ?_ | refine CW.region ?_ | refine CW.skip ?_ | refine CW.exit ?_ | refine CW.ret ?_ | (refine thn_ret (K := K) ?_; clear hK K) | refine thn_ret ?_ | refine blk_ret ?_ | (refine thn_exit (K := K) ?_; clear hK K) | refine thn_exit ?_ | refine blk_here ?_ | refine blk_past rfl ?_ | refine thn_norm ?_ | refine blk_norm ?_ | refine CW.condT rfl ?_ | refine CW.condF rfl ?_ | (refine hK _ _ ?_; clear hK K))
      refine out1 (v := .int .i64 0) Try.results53 rfl ⟨?_, Chg.refl _ _⟩ (Or.inr rfl)
      have : L = [] := List.eq_nil_of_length_eq_zero (by omega)
      simp [rEnd, this]
  · repeat (first | refine WL.nil ?_ | refine WL.auto (h := ?_) | refine WL.gskip rfl rfl rfl rfl ?_ | refine WL.gauto (h := ?_) | (refine CW.seq ?_; intro K hK) | refine CW.block ?_ | refine CW.region ?_ | refine CW.skip ?_ | refine CW.exit ?_ | refine CW.ret ?_ | (refine thn_ret (K := K) ?_; clear hK K) | refine thn_ret ?_ | refine blk_ret ?_ | (refine thn_exit (K := K) ?_; clear hK K) | refine thn_exit ?_ | refine blk_here ?_ | refine blk_past rfl ?_ | refine thn_norm ?_ | refine blk_norm ?_ | refine CW.condT rfl ?_ | refine CW.condF rfl ?_ | (refine hK _ _ ?_; clear hK K))
    rw [show decide (bad = 0) = false from decide_eq_false h1]
    repeat (first | refine WL.nil ?_ | refine WL.auto (h := ?_) | refine WL.gskip rfl rfl rfl rfl ?_ | refine WL.gauto (h := ?_) | (refine CW.seq ?_; intro K hK) | refine CW.block ?_ | refine CW.region ?_ | refine CW.skip ?_ | refine CW.exit ?_ | refine CW.ret ?_ | (refine thn_ret (K := K) ?_; clear hK K) | refine thn_ret ?_ | refine blk_ret ?_ | (refine thn_exit (K := K) ?_; clear hK K) | refine thn_exit ?_ | refine blk_here ?_ | refine blk_past rfl ?_ | refine thn_norm ?_ | refine blk_norm ?_ | refine CW.condT rfl ?_ | refine CW.condF rfl ?_ | (refine hK _ _ ?_; clear hK K))
    refine out1 (v := .int .i64 bad) Try.results53 rfl ⟨?_, Chg.refl _ _⟩ (Or.inr rfl)
    simp [rEnd, h1]
end B
end Go.Proofs.Ytlofcomnhecgfaa
