/- A reader's calls: N, B, T, F, Count, Left, Err, End. Sizes are bounded. -/
import Derived.Test.YtlofcomnhecgfaaWireD
namespace Go.Proofs.Ytlofcomnhecgfaa
namespace B
attribute [local irreducible] OpW WL CW Ret Sl Blk thn blk outOf
set_option linter.unusedVariables false
set_option linter.unusedSimpArgs false

theorem rNum_false {s s' : RS} {a n x : Nat} (h : rNum s a n = (x, false, s')) : x = 0 := by
  unfold rNum at h
  split at h
  · simp only [Prod.mk.injEq] at h; exact h.1.symm
  · split at h
    · simp only [Prod.mk.injEq] at h; exact h.1.symm
    · simp only [Prod.mk.injEq, Bool.true_eq_false, false_and, and_false] at h
theorem rNum_true {s s' : RS} {a n x : Nat} (h : rNum s a n = (x, true, s')) : s' = s ∧ s.2 = 0 ∧ a + n ≤ s.1.length ∧ x = numOf ((s.1.drop a).take n) := by
  unfold rNum at h
  split at h
  · simp only [Prod.mk.injEq, Bool.false_eq_true, false_and, and_false] at h
  · rename_i h0
    split at h
    · simp only [Prod.mk.injEq, Bool.false_eq_true, false_and, and_false] at h
    · simp only [Prod.mk.injEq, true_and] at h
      exact ⟨h.2.symm, by simpa using h0, by omega, h.1.symm⟩

/-- 'r.b = r.b[m:]', what stands in the reader's block turned. -/
theorem Rd.cut {w w' : World} {rb m : Nat} {L : List UInt8} {bad : Int} {A B : Option Addr} {cap : Nat} {Z : Nat → Prop} (hs : Sl w A (bvs L)) (hA : ∀ a, A = some a → a.spot = none ∧ Z a.block ∧ a.block ≠ rb) (hcap : L.length ≤ cap) (hL : L.length ≤ 70368744177664) (hm : m ≤ L.length) (hB : B = A ∧ cap = m ∨ B = at_ A (m * 1))
    (hp : Put w w' rb) (hb : Blk w' rb #[.slice B (L.length - m) (cap - m), .int .i64 bad] 115) : Rd w' rb (L.drop m, bad) Z := by
  have hs' : Sl w B (bvs (L.drop m)) := by
    rw [← bvs_drop]
    refine hs.drop' m (fun a ha => (hA a ha).1) B ?_
    rcases hB with ⟨h1, h2⟩ | h1
    · exact Or.inl ⟨h1, by rw [bvs_length]; omega⟩
    · exact Or.inr (by simpa using h1)
  have hB' : ∀ a, B = some a → a.spot = none ∧ Z a.block ∧ a.block ≠ rb := by
    intro b hb
    rcases hB with ⟨rfl, _⟩ | rfl
    · exact hA b hb
    · cases A with
      | none => simp [at_] at hb
      | some a => simp only [at_, Option.map_some, Option.some.injEq] at hb; subst hb; exact ⟨rfl, (hA a rfl).2⟩
  refine ⟨B, cap - m, ?_, hs'.keep hp.chg fun a ha => (hB' a ha).2.2, hB', ?_, ?_⟩
  · simpa using hb
  · simp; omega
  · simp; omega

theorem N44 (rb : Nat) (s : RS) (Z : Nat → Prop) (w : World) (hr : Rd w rb s Z) : Ret Try.prog 44 #[.pointer (some ⟨rb, 0, none⟩)] w fun v w' => v = .int .u64 ((rN s).1 : Int) ∧ Rd w' rb (rN s).2 Z ∧ Chg (· = rb) w w' := by
  refine Ret.enter (fn := Try.f44) (N := 20) Try.func44 rfl Try.ntmps44 rfl ?_
  obtain ⟨x, ok, s', hq⟩ : ∃ x ok s', rNum s 0 8 = (x, ok, s') := ⟨_, _, _, rfl⟩
  repeat (first | refine WL.nil ?_ | refine WL.auto (h := ?_) | refine WL.gskip rfl rfl rfl rfl ?_ | refine WL.gauto (h := ?_) | (refine CW.seq ?_; intro K hK) | refine CW.block ?_ | refine CW.region ?_ | refine CW.skip ?_ | refine CW.exit ?_ | refine CW.ret ?_ | (refine thn_ret (K := K) ?_; clear hK K) | refine thn_ret ?_ | refine blk_ret ?_ | (refine thn_exit (K := K) ?_; clear hK K) | refine thn_exit ?_ | refine blk_here ?_ | refine blk_past rfl ?_ | refine thn_norm ?_ | refine blk_norm ?_ | refine CW.condT rfl ?_ | refine CW.condF rfl ?_ | (refine hK _ _ ?_; clear hK K))
  refine WL.step rfl ?_
  refine OpW.call ((number76 rb s 0 8 Z w hr (by decide) (by decide)).mono ?_) rfl
  rintro v w1 ⟨rfl, hr1, hc1⟩
  rw [hq] at hr1 ⊢
  repeat (first | refine WL.nil ?_ | refine WL.auto (h := ?_) | refine WL.gskip rfl rfl rfl rfl ?_ | refine WL.gauto (h := ?_) | (refine CW.seq ?_; intro K hK) | refine CW.block ?_ | refine CW.region ?_ | refine CW.skip ?_ | refine CW.exit ?_ | refine CW.ret ?_ | (refine thn_ret (K := K) ?_; clear hK K) | refine thn_ret ?_ | refine blk_ret ?_ | (refine thn_exit (K := K) ?_; clear hK K) | refine thn_exit ?_ | refine blk_here ?_ | refine blk_past rfl ?_ | refine thn_norm ?_ | refine blk_norm ?_ | refine CW.condT rfl ?_ | refine CW.condF rfl ?_ | (refine hK _ _ ?_; clear hK K))
  refine CW.cond rfl (fun h1 => ?_) (fun h1 => ?_)
  · simp only at h1
    subst h1
    obtain ⟨rfl, hb0, hlen, hx⟩ := rNum_true hq
    obtain ⟨L, bad⟩ := s'
    obtain ⟨A, cap, hb, hs, hA, hcap, hL⟩ := hr1
    simp only at hb hs hcap hL hlen
    have e1 : rN (L, bad) = (x, (L.drop 8, bad)) := by simp [rN, hq]
    repeat (first | refine WL.nil ?_ | refine WL.auto (h := ?_) | refine WL.gskip rfl rfl rfl rfl ?_ | refine WL.gauto (h := ?_) | (refine CW.seq ?_; intro K hK) | refine CW.block ?_ | refine CW.region ?_ | refine CW.skip ?_ | refine CW.exit ?_ | refine CW.ret ?_ | (refine thn_ret (K := K) ?_; clear hK K) | refine thn_ret ?_ | refine blk_ret ?_ | (refine thn_exit (K := K) ?_; clear hK K) | refine thn_exit ?_ | refine blk_here ?_ | refine blk_past rfl ?_ | refine thn_norm ?_ | refine blk_norm ?_ | refine CW.condT rfl ?_ | refine CW.condF rfl ?_ | (refine hK _ _ ?_; clear hK K))
    refine WL.step rfl ?_
    refine OpW.sliceLo 8 rfl rfl rfl (by omega) (fun a ha => (hA a ha).1) ?_
    intro B hB
    repeat (first | refine WL.nil ?_ | refine WL.auto (h := ?_) | refine WL.gskip rfl rfl rfl rfl ?_ | refine WL.gauto (h := ?_) | (refine CW.seq ?_; intro K hK) | refine CW.block ?_ | refine CW.region ?_ | refine CW.skip ?_ | refine CW.exit ?_ | refine CW.ret ?_ | (refine thn_ret (K := K) ?_; clear hK K) | refine thn_ret ?_ | refine blk_ret ?_ | (refine thn_exit (K := K) ?_; clear hK K) | refine thn_exit ?_ | refine blk_here ?_ | refine blk_past rfl ?_ | refine thn_norm ?_ | refine blk_norm ?_ | refine CW.condT rfl ?_ | refine CW.condF rfl ?_ | (refine hK _ _ ?_; clear hK K))
    refine WL.step0 ?_
    refine OpW.store (v := .slice _ _ _) rfl rfl rfl hb rfl (c' := #[_, _]) rfl ?_
    intro w2 hp hb2
    repeat (first | refine WL.nil ?_ | refine WL.auto (h := ?_) | refine WL.gskip rfl rfl rfl rfl ?_ | refine WL.gauto (h := ?_) | (refine CW.seq ?_; intro K hK) | refine CW.block ?_ | refine CW.region ?_ | refine CW.skip ?_ | refine CW.exit ?_ | refine CW.ret ?_ | (refine thn_ret (K := K) ?_; clear hK K) | refine thn_ret ?_ | refine blk_ret ?_ | (refine thn_exit (K := K) ?_; clear hK K) | refine thn_exit ?_ | refine blk_here ?_ | refine blk_past rfl ?_ | refine thn_norm ?_ | refine blk_norm ?_ | refine CW.condT rfl ?_ | refine CW.condF rfl ?_ | (refine hK _ _ ?_; clear hK K))
    refine out1 (v := .int .u64 x) Try.results44 rfl ?_ (Or.inr rfl)
    rw [e1]
    exact ⟨rfl, Rd.cut hs hA hcap hL (by omega) hB hp hb2, hc1.andThen hp.chg⟩
  · simp only at h1
    subst h1
    have hx := rNum_false hq
    subst hx
    have e1 : rN s = (0, s') := by simp [rN, hq]
    repeat (first | refine WL.nil ?_ | refine WL.auto (h := ?_) | refine WL.gskip rfl rfl rfl rfl ?_ | refine WL.gauto (h := ?_) | (refine CW.seq ?_; intro K hK) | refine CW.block ?_ | refine CW.region ?_ | refine CW.skip ?_ | refine CW.exit ?_ | refine CW.ret ?_ | (refine thn_ret (K := K) ?_; clear hK K) | refine thn_ret ?_ | refine blk_ret ?_ | (refine thn_exit (K := K) ?_; clear hK K) | refine thn_exit ?_ | refine blk_here ?_ | refine blk_past rfl ?_ | refine thn_norm ?_ | refine blk_norm ?_ | refine CW.condT rfl ?_ | refine CW.condF rfl ?_ | (refine hK _ _ ?_; clear hK K))
    refine out1 (v := .int .u64 0) Try.results44 rfl ?_ (Or.inr rfl)
    rw [e1]
    exact ⟨rfl, hr1, hc1⟩

theorem Count55 (rb : Nat) (s : RS) (most : Int) (Z : Nat → Prop) (w : World) (hr : Rd w rb s Z) (hmost : -9223372036854775808 ≤ most ∧ most ≤ 9223372036854775807) : Ret Try.prog 55 #[.pointer (some ⟨rb, 0, none⟩), .int .i64 most] w fun v w' => v = .int .i64 (rCount s most).1 ∧ Rd w' rb (rCount s most).2 Z ∧ Chg (· = rb) w w' := by
  refine Ret.enter (fn := Try.f55) (N := 35) Try.func55 rfl Try.ntmps55 rfl ?_
  obtain ⟨x, ok, s', hq⟩ : ∃ x ok s', rNum s 0 8 = (x, ok, s') := ⟨_, _, _, rfl⟩
  repeat (first | refine WL.nil ?_ | refine WL.auto (h := ?_) | refine WL.gskip rfl rfl rfl rfl ?_ | refine WL.gauto (h := ?_) | (refine CW.seq ?_; intro K hK) | refine CW.block ?_ | refine CW.region ?_ | refine CW.skip ?_ | refine CW.exit ?_ | refine CW.ret ?_ | (refine thn_ret (K := K) ?_; clear hK K) | refine thn_ret ?_ | refine blk_ret ?_ | (refine thn_exit (K := K) ?_; clear hK K) | refine thn_exit ?_ | refine blk_here ?_ | refine blk_past rfl ?_ | refine thn_norm ?_ | refine blk_norm ?_ | refine CW.condT rfl ?_ | refine CW.condF rfl ?_ | (refine hK _ _ ?_; clear hK K))
  refine WL.step rfl ?_
  refine OpW.call ((number76 rb s 0 8 Z w hr (by decide) (by decide)).mono ?_) rfl
  rintro v w1 ⟨rfl, hr1, hc1⟩
  rw [hq] at hr1 ⊢
  cases ok with
  | false =>
    have hx := rNum_false hq
    subst hx
    have e1 : rCount s most = (0, s') := by simp [rCount, hq]
    repeat (first | refine WL.nil ?_ | refine WL.auto (h := ?_) | refine WL.gskip rfl rfl rfl rfl ?_ | refine WL.gauto (h := ?_) | (refine CW.seq ?_; intro K hK) | refine CW.block ?_ | refine CW.region ?_ | refine CW.skip ?_ | refine CW.exit ?_ | refine CW.ret ?_ | (refine thn_ret (K := K) ?_; clear hK K) | refine thn_ret ?_ | refine blk_ret ?_ | (refine thn_exit (K := K) ?_; clear hK K) | refine thn_exit ?_ | refine blk_here ?_ | refine blk_past rfl ?_ | refine thn_norm ?_ | refine blk_norm ?_ | refine CW.condT rfl ?_ | refine CW.condF rfl ?_ | (refine hK _ _ ?_; clear hK K))
    refine out1 (v := .int .i64 0) Try.results55 rfl ?_ (Or.inr rfl)
    rw [e1]
    exact ⟨rfl, hr1, hc1⟩
  | true =>
    obtain ⟨rfl, hb0, hlen, hx⟩ := rNum_true hq
    obtain ⟨L, bad⟩ := s'
    obtain ⟨A, cap, hb, hs, hA, hcap, hL⟩ := hr1
    simp only at hb hs hcap hL hlen
    by_cases hm0 : most < 0
    · have e1 : rCount (L, bad) most = (0, (L, 22)) := by simp [rCount, hq, hm0]
      repeat (first | refine WL.nil ?_ | refine WL.auto (h := ?_) | refine WL.gskip rfl rfl rfl rfl ?_ | refine WL.gauto (h := ?_) | (refine CW.seq ?_; intro K hK) | refine CW.block ?_ | refine CW.region ?_ | refine CW.skip ?_ | refine CW.exit ?_ | refine CW.ret ?_ | (refine thn_ret (K := K) ?_; clear hK K) | refine thn_ret ?_ | refine blk_ret ?_ | (refine thn_exit (K := K) ?_; clear hK K) | refine thn_exit ?_ | refine blk_here ?_ | refine blk_past rfl ?_ | refine thn_norm ?_ | refine blk_norm ?_ | refine CW.condT rfl ?_ | refine CW.condF rfl ?_ | (refine hK _ _ ?_; clear hK K))
      rw [show decide (most < 0) = true from decide_eq_true hm0]
      repeat (first | refine WL.nil ?_ | refine WL.auto (h := ?_) | refine WL.gskip rfl rfl rfl rfl ?_ | refine WL.gauto (h := ?_) | (refine CW.seq ?_; intro K hK) | refine CW.block ?_ | refine CW.region ?_ | refine CW.skip ?_ | refine CW.exit ?_ | refine CW.ret ?_ | (refine thn_ret (K := K) ?_; clear hK K) | refine thn_ret ?_ | refine blk_ret ?_ | (refine thn_exit (K := K) ?_; clear hK K) | refine thn_exit ?_ | refine blk_here ?_ | refine blk_past rfl ?_ | refine thn_norm ?_ | refine blk_norm ?_ | refine CW.condT rfl ?_ | refine CW.condF rfl ?_ | (refine hK _ _ ?_; clear hK K))
      refine WL.step0 ?_
      refine OpW.store (v := .int _ _) rfl rfl rfl hb rfl (c' := #[_, _]) rfl ?_
      intro w2 hp hb2
      repeat (first | refine WL.nil ?_ | refine WL.auto (h := ?_) | refine WL.gskip rfl rfl rfl rfl ?_ | refine WL.gauto (h := ?_) | (refine CW.seq ?_; intro K hK) | refine CW.block ?_ | refine CW.region ?_ | refine CW.skip ?_ | refine CW.exit ?_ | refine CW.ret ?_ | (refine thn_ret (K := K) ?_; clear hK K) | refine thn_ret ?_ | refine blk_ret ?_ | (refine thn_exit (K := K) ?_; clear hK K) | refine thn_exit ?_ | refine blk_here ?_ | refine blk_past rfl ?_ | refine thn_norm ?_ | refine blk_norm ?_ | refine CW.condT rfl ?_ | refine CW.condF rfl ?_ | (refine hK _ _ ?_; clear hK K))
      refine out1 (v := .int .i64 0) Try.results55 rfl ?_ (Or.inr rfl)
      rw [e1]
      exact ⟨rfl, ⟨A, cap, hb2, hs.keep hp.chg fun a ha => (hA a ha).2.2, hA, hcap, hL⟩, hc1.andThen hp.chg⟩
    · have hx8 : x < 18446744073709551616 := by
        rw [hx]
        have := numOf_lt ((L.drop 0).take 8)
        have hle : ((L.drop 0).take 8).length ≤ 8 := by rw [List.length_take]; omega
        exact Nat.lt_of_lt_of_le this (Nat.le_trans (Nat.pow_le_pow_right (by decide) hle) (by decide))
      by_cases hm1 : most < (x : Int)
      · have e1 : rCount (L, bad) most = (0, (L, 22)) := by simp [rCount, hq, hm1]
        repeat (first | refine WL.nil ?_ | refine WL.auto (h := ?_) | refine WL.gskip rfl rfl rfl rfl ?_ | refine WL.gauto (h := ?_) | (refine CW.seq ?_; intro K hK) | refine CW.block ?_ | refine CW.region ?_ | refine CW.skip ?_ | refine CW.exit ?_ | refine CW.ret ?_ | (refine thn_ret (K := K) ?_; clear hK K) | refine thn_ret ?_ | refine blk_ret ?_ | (refine thn_exit (K := K) ?_; clear hK K) | refine thn_exit ?_ | refine blk_here ?_ | refine blk_past rfl ?_ | refine thn_norm ?_ | refine blk_norm ?_ | refine CW.condT rfl ?_ | refine CW.condF rfl ?_ | (refine hK _ _ ?_; clear hK K))
        rw [show decide (most < 0) = false from decide_eq_false hm0]
        repeat (first | refine WL.nil ?_ | refine WL.auto (h := ?_) | refine WL.gskip rfl rfl rfl rfl ?_ | refine WL.gauto (h := ?_) | (refine CW.seq ?_; intro K hK) | refine CW.block ?_ | refine CW.region ?_ | refine CW.skip ?_ | refine CW.exit ?_ | refine CW.ret ?_ | (refine thn_ret (K := K) ?_; clear hK K) | refine thn_ret ?_ | refine blk_ret ?_ | (refine thn_exit (K := K) ?_; clear hK K) | refine thn_exit ?_ | refine blk_here ?_ | refine blk_past rfl ?_ | refine thn_norm ?_ | refine blk_norm ?_ | refine CW.condT rfl ?_ | refine CW.condF rfl ?_ | (refine hK _ _ ?_; clear hK K))
        rw [show decide (most < (x : Int)) = true from decide_eq_true hm1]
        repeat (first | refine WL.nil ?_ | refine WL.auto (h := ?_) | refine WL.gskip rfl rfl rfl rfl ?_ | refine WL.gauto (h := ?_) | (refine CW.seq ?_; intro K hK) | refine CW.block ?_ | refine CW.region ?_ | refine CW.skip ?_ | refine CW.exit ?_ | refine CW.ret ?_ | (refine thn_ret (K := K) ?_; clear hK K) | refine thn_ret ?_ | refine blk_ret ?_ | (refine thn_exit (K := K) ?_; clear hK K) | refine thn_exit ?_ | refine blk_here ?_ | refine blk_past rfl ?_ | refine thn_norm ?_ | refine blk_norm ?_ | refine CW.condT rfl ?_ | refine CW.condF rfl ?_ | (refine hK _ _ ?_; clear hK K))
        refine WL.step0 ?_
        refine OpW.store (v := .int _ _) rfl rfl rfl hb rfl (c' := #[_, _]) rfl ?_
        intro w2 hp hb2
        repeat (first | refine WL.nil ?_ | refine WL.auto (h := ?_) | refine WL.gskip rfl rfl rfl rfl ?_ | refine WL.gauto (h := ?_) | (refine CW.seq ?_; intro K hK) | refine CW.block ?_ | refine CW.region ?_ | refine CW.skip ?_ | refine CW.exit ?_ | refine CW.ret ?_ | (refine thn_ret (K := K) ?_; clear hK K) | refine thn_ret ?_ | refine blk_ret ?_ | (refine thn_exit (K := K) ?_; clear hK K) | refine thn_exit ?_ | refine blk_here ?_ | refine blk_past rfl ?_ | refine thn_norm ?_ | refine blk_norm ?_ | refine CW.condT rfl ?_ | refine CW.condF rfl ?_ | (refine hK _ _ ?_; clear hK K))
        refine out1 (v := .int .i64 0) Try.results55 rfl ?_ (Or.inr rfl)
        rw [e1]
        exact ⟨rfl, ⟨A, cap, hb2, hs.keep hp.chg fun a ha => (hA a ha).2.2, hA, hcap, hL⟩, hc1.andThen hp.chg⟩
      · have e1 : rCount (L, bad) most = ((x : Int), (L.drop 8, bad)) := by simp [rCount, hq, hm1, hm0]
        repeat (first | refine WL.nil ?_ | refine WL.auto (h := ?_) | refine WL.gskip rfl rfl rfl rfl ?_ | refine WL.gauto (h := ?_) | (refine CW.seq ?_; intro K hK) | refine CW.block ?_ | refine CW.region ?_ | refine CW.skip ?_ | refine CW.exit ?_ | refine CW.ret ?_ | (refine thn_ret (K := K) ?_; clear hK K) | refine thn_ret ?_ | refine blk_ret ?_ | (refine thn_exit (K := K) ?_; clear hK K) | refine thn_exit ?_ | refine blk_here ?_ | refine blk_past rfl ?_ | refine thn_norm ?_ | refine blk_norm ?_ | refine CW.condT rfl ?_ | refine CW.condF rfl ?_ | (refine hK _ _ ?_; clear hK K))
        rw [show decide (most < 0) = false from decide_eq_false hm0]
        repeat (first | refine WL.nil ?_ | refine WL.auto (h := ?_) | refine WL.gskip rfl rfl rfl rfl ?_ | refine WL.gauto (h := ?_) | (refine CW.seq ?_; intro K hK) | refine CW.block ?_ | refine CW.region ?_ | refine CW.skip ?_ | refine CW.exit ?_ | refine CW.ret ?_ | (refine thn_ret (K := K) ?_; clear hK K) | refine thn_ret ?_ | refine blk_ret ?_ | (refine thn_exit (K := K) ?_; clear hK K) | refine thn_exit ?_ | refine blk_here ?_ | refine blk_past rfl ?_ | refine thn_norm ?_ | refine blk_norm ?_ | refine CW.condT rfl ?_ | refine CW.condF rfl ?_ | (refine hK _ _ ?_; clear hK K))
        rw [show decide (most < (x : Int)) = false from decide_eq_false hm1]
        repeat (first | refine WL.nil ?_ | refine WL.auto (h := ?_) | refine WL.gskip rfl rfl rfl rfl ?_ | refine WL.gauto (h := ?_) | (refine CW.seq ?_; intro K hK) | refine CW.block ?_ | refine CW.region ?_ | refine CW.skip ?_ | refine CW.exit ?_ | refine CW.ret ?_ | (refine thn_ret (K := K) ?_; clear hK K) | refine thn_ret ?_ | refine blk_ret ?_ | (refine thn_exit (K := K) ?_; clear hK K) | refine thn_exit ?_ | refine blk_here ?_ | refine blk_past rfl ?_ | refine thn_norm ?_ | refine blk_norm ?_ | refine CW.condT rfl ?_ | refine CW.condF rfl ?_ | (refine hK _ _ ?_; clear hK K))
        refine WL.step rfl ?_
        refine OpW.sliceLo 8 rfl rfl rfl (by omega) (fun a ha => (hA a ha).1) ?_
        intro B hB
        repeat (first | refine WL.nil ?_ | refine WL.auto (h := ?_) | refine WL.gskip rfl rfl rfl rfl ?_ | refine WL.gauto (h := ?_) | (refine CW.seq ?_; intro K hK) | refine CW.block ?_ | refine CW.region ?_ | refine CW.skip ?_ | refine CW.exit ?_ | refine CW.ret ?_ | (refine thn_ret (K := K) ?_; clear hK K) | refine thn_ret ?_ | refine blk_ret ?_ | (refine thn_exit (K := K) ?_; clear hK K) | refine thn_exit ?_ | refine blk_here ?_ | refine blk_past rfl ?_ | refine thn_norm ?_ | refine blk_norm ?_ | refine CW.condT rfl ?_ | refine CW.condF rfl ?_ | (refine hK _ _ ?_; clear hK K))
        refine WL.step0 ?_
        refine OpW.store (v := .slice _ _ _) rfl rfl rfl hb rfl (c' := #[_, _]) rfl ?_
        intro w2 hp hb2
        repeat (first | refine WL.nil ?_ | refine WL.auto (h := ?_) | refine WL.gskip rfl rfl rfl rfl ?_ | refine WL.gauto (h := ?_) | (refine CW.seq ?_; intro K hK) | refine CW.block ?_ | refine CW.region ?_ | refine CW.skip ?_ | refine CW.exit ?_ | refine CW.ret ?_ | (refine thn_ret (K := K) ?_; clear hK K) | refine thn_ret ?_ | refine blk_ret ?_ | (refine thn_exit (K := K) ?_; clear hK K) | refine thn_exit ?_ | refine blk_here ?_ | refine blk_past rfl ?_ | refine thn_norm ?_ | refine blk_norm ?_ | refine CW.condT rfl ?_ | refine CW.condF rfl ?_ | (refine hK _ _ ?_; clear hK K))
        refine out1 (v := .int .i64 x) Try.results55 rfl ?_ (Or.inr rfl)
        rw [e1]
        exact ⟨rfl, Rd.cut hs hA hcap hL (by omega) hB hp hb2, hc1.andThen hp.chg⟩

theorem F47 (rb : Nat) (s : RS) (Z : Nat → Prop) (w : World) (hr : Rd w rb s Z) : Ret Try.prog 47 #[.pointer (some ⟨rb, 0, none⟩)] w fun v w' => v = .bool (rF s).1 ∧ Rd w' rb (rF s).2 Z ∧ Chg (· = rb) w w' := by
  refine Ret.enter (fn := Try.f47) (N := 27) Try.func47 rfl Try.ntmps47 rfl ?_
  obtain ⟨x, ok, s', hq⟩ : ∃ x ok s', rNum s 0 1 = (x, ok, s') := ⟨_, _, _, rfl⟩
  repeat (first | refine WL.nil ?_ | refine WL.auto (h := ?_) | refine WL.gskip rfl rfl rfl rfl ?_ | refine WL.gauto (h := ?_) | (refine CW.seq ?_; intro K hK) | refine CW.block ?_ | refine CW.region ?_ | refine CW.skip ?_ | refine CW.exit ?_ | refine CW.ret ?_ | (refine thn_ret (K := K) ?_; clear hK K) | refine thn_ret ?_ | refine blk_ret ?_ | (refine thn_exit (K := K) ?_; clear hK K) | refine thn_exit ?_ | refine blk_here ?_ | refine blk_past rfl ?_ | refine thn_norm ?_ | refine blk_norm ?_ | refine CW.condT rfl ?_ | refine CW.condF rfl ?_ | (refine hK _ _ ?_; clear hK K))
  refine WL.step rfl ?_
  refine OpW.call ((number76 rb s 0 1 Z w hr (by decide) (by decide)).mono ?_) rfl
  rintro v w1 ⟨rfl, hr1, hc1⟩
  rw [hq] at hr1 ⊢
  cases ok with
  | false =>
    have hx := rNum_false hq
    subst hx
    have e1 : rF s = (false, s') := by simp [rF, hq]
    repeat (first | refine WL.nil ?_ | refine WL.auto (h := ?_) | refine WL.gskip rfl rfl rfl rfl ?_ | refine WL.gauto (h := ?_) | (refine CW.seq ?_; intro K hK) | refine CW.block ?_ | refine CW.region ?_ | refine CW.skip ?_ | refine CW.exit ?_ | refine CW.ret ?_ | (refine thn_ret (K := K) ?_; clear hK K) | refine thn_ret ?_ | refine blk_ret ?_ | (refine thn_exit (K := K) ?_; clear hK K) | refine thn_exit ?_ | refine blk_here ?_ | refine blk_past rfl ?_ | refine thn_norm ?_ | refine blk_norm ?_ | refine CW.condT rfl ?_ | refine CW.condF rfl ?_ | (refine hK _ _ ?_; clear hK K))
    refine out1 (v := .bool false) Try.results47 rfl ?_ (Or.inr rfl)
    rw [e1]
    exact ⟨rfl, hr1, hc1⟩
  | true =>
    obtain ⟨rfl, hb0, hlen, hx⟩ := rNum_true hq
    obtain ⟨L, bad⟩ := s'
    obtain ⟨A, cap, hb, hs, hA, hcap, hL⟩ := hr1
    simp only at hb hs hcap hL hlen
    repeat (first | refine WL.nil ?_ | refine WL.auto (h := ?_) | refine WL.gskip rfl rfl rfl rfl ?_ | refine WL.gauto (h := ?_) | (refine CW.seq ?_; intro K hK) | refine CW.block ?_ | refine CW.region ?_ | refine CW.skip ?_ | refine CW.exit ?_ | refine CW.ret ?_ | (refine thn_ret (K := K) ?_; clear hK K) | refine thn_ret ?_ | refine blk_ret ?_ | (refine thn_exit (K := K) ?_; clear hK K) | refine thn_exit ?_ | refine blk_here ?_ | refine blk_past rfl ?_ | refine thn_norm ?_ | refine blk_norm ?_ | refine CW.condT rfl ?_ | refine CW.condF rfl ?_ | (refine hK _ _ ?_; clear hK K))
    refine CW.condP (p := (1 : Int) < (x : Int)) rfl (fun h1 => ?_) (fun h1 => ?_)
    · have e1 : rF (L, bad) = (false, (L, 21)) := by simp only [rF, hq, if_true]; rw [if_pos (by omega)]
      repeat (first | refine WL.nil ?_ | refine WL.auto (h := ?_) | refine WL.gskip rfl rfl rfl rfl ?_ | refine WL.gauto (h := ?_) | (refine CW.seq ?_; intro K hK) | refine CW.block ?_ | refine CW.region ?_ | refine CW.skip ?_ | refine CW.exit ?_ | refine CW.ret ?_ | (refine thn_ret (K := K) ?_; clear hK K) | refine thn_ret ?_ | refine blk_ret ?_ | (refine thn_exit (K := K) ?_; clear hK K) | refine thn_exit ?_ | refine blk_here ?_ | refine blk_past rfl ?_ | refine thn_norm ?_ | refine blk_norm ?_ | refine CW.condT rfl ?_ | refine CW.condF rfl ?_ | (refine hK _ _ ?_; clear hK K))
      refine WL.step0 ?_
      refine OpW.store (v := .int _ _) rfl rfl rfl hb rfl (c' := #[_, _]) rfl ?_
      intro w2 hp hb2
      repeat (first | refine WL.nil ?_ | refine WL.auto (h := ?_) | refine WL.gskip rfl rfl rfl rfl ?_ | refine WL.gauto (h := ?_) | (refine CW.seq ?_; intro K hK) | refine CW.block ?_ | refine CW.region ?_ | refine CW.skip ?_ | refine CW.exit ?_ | refine CW.ret ?_ | (refine thn_ret (K := K) ?_; clear hK K) | refine thn_ret ?_ | refine blk_ret ?_ | (refine thn_exit (K := K) ?_; clear hK K) | refine thn_exit ?_ | refine blk_here ?_ | refine blk_past rfl ?_ | refine thn_norm ?_ | refine blk_norm ?_ | refine CW.condT rfl ?_ | refine CW.condF rfl ?_ | (refine hK _ _ ?_; clear hK K))
      refine out1 (v := .bool false) Try.results47 rfl ?_ (Or.inr rfl)
      rw [e1]
      exact ⟨rfl, ⟨A, cap, hb2, hs.keep hp.chg fun a ha => (hA a ha).2.2, hA, hcap, hL⟩, hc1.andThen hp.chg⟩
    · have e1 : rF (L, bad) = (decide (x = 1), (L.drop 1, bad)) := by simp only [rF, hq, if_true]; rw [if_neg (by omega)]
      repeat (first | refine WL.nil ?_ | refine WL.auto (h := ?_) | refine WL.gskip rfl rfl rfl rfl ?_ | refine WL.gauto (h := ?_) | (refine CW.seq ?_; intro K hK) | refine CW.block ?_ | refine CW.region ?_ | refine CW.skip ?_ | refine CW.exit ?_ | refine CW.ret ?_ | (refine thn_ret (K := K) ?_; clear hK K) | refine thn_ret ?_ | refine blk_ret ?_ | (refine thn_exit (K := K) ?_; clear hK K) | refine thn_exit ?_ | refine blk_here ?_ | refine blk_past rfl ?_ | refine thn_norm ?_ | refine blk_norm ?_ | refine CW.condT rfl ?_ | refine CW.condF rfl ?_ | (refine hK _ _ ?_; clear hK K))
      refine WL.step rfl ?_
      refine OpW.sliceLo 1 rfl rfl rfl (by omega) (fun a ha => (hA a ha).1) ?_
      intro B hB
      repeat (first | refine WL.nil ?_ | refine WL.auto (h := ?_) | refine WL.gskip rfl rfl rfl rfl ?_ | refine WL.gauto (h := ?_) | (refine CW.seq ?_; intro K hK) | refine CW.block ?_ | refine CW.region ?_ | refine CW.skip ?_ | refine CW.exit ?_ | refine CW.ret ?_ | (refine thn_ret (K := K) ?_; clear hK K) | refine thn_ret ?_ | refine blk_ret ?_ | (refine thn_exit (K := K) ?_; clear hK K) | refine thn_exit ?_ | refine blk_here ?_ | refine blk_past rfl ?_ | refine thn_norm ?_ | refine blk_norm ?_ | refine CW.condT rfl ?_ | refine CW.condF rfl ?_ | (refine hK _ _ ?_; clear hK K))
      refine WL.step0 ?_
      refine OpW.store (v := .slice _ _ _) rfl rfl rfl hb rfl (c' := #[_, _]) rfl ?_
      intro w2 hp hb2
      repeat (first | refine WL.nil ?_ | refine WL.auto (h := ?_) | refine WL.gskip rfl rfl rfl rfl ?_ | refine WL.gauto (h := ?_) | (refine CW.seq ?_; intro K hK) | refine CW.block ?_ | refine CW.region ?_ | refine CW.skip ?_ | refine CW.exit ?_ | refine CW.ret ?_ | (refine thn_ret (K := K) ?_; clear hK K) | refine thn_ret ?_ | refine blk_ret ?_ | (refine thn_exit (K := K) ?_; clear hK K) | refine thn_exit ?_ | refine blk_here ?_ | refine blk_past rfl ?_ | refine thn_norm ?_ | refine blk_norm ?_ | refine CW.condT rfl ?_ | refine CW.condF rfl ?_ | (refine hK _ _ ?_; clear hK K))
      refine out1 (v := .bool (decide ((x : Int) = 1))) Try.results47 rfl ?_ (Or.inr rfl)
      rw [e1]
      refine ⟨?_, Rd.cut hs hA hcap hL (by omega) hB hp hb2, hc1.andThen hp.chg⟩
      congr 1
      rw [Bool.eq_iff_iff]; simp; omega

theorem Left49 (rb : Nat) (s : RS) (Z : Nat → Prop) (w : World) (hr : Rd w rb s Z) : Ret Try.prog 49 #[.pointer (some ⟨rb, 0, none⟩)] w fun v w' => v = .int .i64 (s.1.length : Int) ∧ Grow w w' := by
  refine Ret.enter (fn := Try.f49) (N := 10) Try.func49 rfl Try.ntmps49 rfl ?_
  obtain ⟨A, cap, hb, hs, hA, hcap, hL⟩ := hr
  repeat (first | refine WL.nil ?_ | refine WL.auto (h := ?_) | refine WL.gskip rfl rfl rfl rfl ?_ | refine WL.gauto (h := ?_) | (refine CW.seq ?_; intro K hK) | refine CW.block ?_ | refine CW.region ?_ | refine CW.skip ?_ | refine CW.exit ?_ | refine CW.ret ?_ | (refine thn_ret (K := K) ?_; clear hK K) | refine thn_ret ?_ | refine blk_ret ?_ | (refine thn_exit (K := K) ?_; clear hK K) | refine thn_exit ?_ | refine blk_here ?_ | refine blk_past rfl ?_ | refine thn_norm ?_ | refine blk_norm ?_ | refine CW.condT rfl ?_ | refine CW.condF rfl ?_ | (refine hK _ _ ?_; clear hK K))
  exact out1 (v := .int .i64 _) Try.results49 rfl ⟨rfl, Chg.refl _ _⟩ (Or.inr rfl)
theorem Err54 (rb : Nat) (s : RS) (Z : Nat → Prop) (w : World) (hr : Rd w rb s Z) : Ret Try.prog 54 #[.pointer (some ⟨rb, 0, none⟩)] w fun v w' => v = .int .i64 s.2 ∧ Grow w w' := by
  refine Ret.enter (fn := Try.f54) (N := 9) Try.func54 rfl Try.ntmps54 rfl ?_
  obtain ⟨A, cap, hb, hs, hA, hcap, hL⟩ := hr
  repeat (first | refine WL.nil ?_ | refine WL.auto (h := ?_) | refine WL.gskip rfl rfl rfl rfl ?_ | refine WL.gauto (h := ?_) | (refine CW.seq ?_; intro K hK) | refine CW.block ?_ | refine CW.region ?_ | refine CW.skip ?_ | refine CW.exit ?_ | refine CW.ret ?_ | (refine thn_ret (K := K) ?_; clear hK K) | refine thn_ret ?_ | refine blk_ret ?_ | (refine thn_exit (K := K) ?_; clear hK K) | refine thn_exit ?_ | refine blk_here ?_ | refine blk_past rfl ?_ | refine thn_norm ?_ | refine blk_norm ?_ | refine CW.condT rfl ?_ | refine CW.condF rfl ?_ | (refine hK _ _ ?_; clear hK K))
  exact out1 (v := .int .i64 _) Try.results54 rfl ⟨rfl, Chg.refl _ _⟩ (Or.inr rfl)
theorem End48 (rb : Nat) (s : RS) (Z : Nat → Prop) (w : World) (hr : Rd w rb s Z) : Ret Try.prog 48 #[.pointer (some ⟨rb, 0, none⟩)] w fun v w' => v = .int .i64 (rEnd s) ∧ Grow w w' := by
  refine Ret.enter (fn := Try.f48) (N := 17) Try.func48 rfl Try.ntmps48 rfl ?_
  repeat (first | refine WL.nil ?_ | refine WL.auto (h := ?_) | refine WL.gskip rfl rfl rfl rfl ?_ | refine WL.gauto (h := ?_) | (refine CW.seq ?_; intro K hK) | refine CW.block ?_ | refine CW.region ?_ | refine CW.skip ?_ | refine CW.exit ?_ | refine CW.ret ?_ | (refine thn_ret (K := K) ?_; clear hK K) | refine thn_ret ?_ | refine blk_ret ?_ | (refine thn_exit (K := K) ?_; clear hK K) | refine thn_exit ?_ | refine blk_here ?_ | refine blk_past rfl ?_ | refine thn_norm ?_ | refine blk_norm ?_ | refine CW.condT rfl ?_ | refine CW.condF rfl ?_ | (refine hK _ _ ?_; clear hK K))
  refine WL.step rfl ?_
  refine OpW.call ((Err54 rb s Z w hr).mono ?_) rfl
  rintro v w1 ⟨rfl, hg⟩
  obtain ⟨A, cap, hb, hs, hA, hcap, hL⟩ := hr.grow hg
  by_cases h0 : s.2 = 0
  · by_cases hn : s.1 = []
    · have e1 : rEnd s = 0 := by simp [rEnd, h0, hn]
      have hln : (s.1.length : Int) = 0 := by simp [hn]
      repeat (first | refine WL.nil ?_ | refine WL.auto (h := ?_) | refine WL.gskip rfl rfl rfl rfl ?_ | refine WL.gauto (h := ?_) | (refine CW.seq ?_; intro K hK) | refine CW.block ?_ | refine CW.region ?_ | refine CW.skip ?_ | refine CW.exit ?_ | refine CW.ret ?_ | (refine thn_ret (K := K) ?_; clear hK K) | refine thn_ret ?_ | refine blk_ret ?_ | (refine thn_exit (K := K) ?_; clear hK K) | refine thn_exit ?_ | refine blk_here ?_ | refine blk_past rfl ?_ | refine thn_norm ?_ | refine blk_norm ?_ | refine CW.condT rfl ?_ | refine CW.condF rfl ?_ | (refine hK _ _ ?_; clear hK K))
      rw [show decide (¬ s.2 = 0) = false from by simp [h0]]
      repeat (first | refine WL.nil ?_ | refine WL.auto (h := ?_) | refine WL.gskip rfl rfl rfl rfl ?_ | refine WL.gauto (h := ?_) | (refine CW.seq ?_; intro K hK) | refine CW.block ?_ | refine CW.region ?_ | refine CW.skip ?_ | refine CW.exit ?_ | refine CW.ret ?_ | (refine thn_ret (K := K) ?_; clear hK K) | refine thn_ret ?_ | refine blk_ret ?_ | (refine thn_exit (K := K) ?_; clear hK K) | refine thn_exit ?_ | refine blk_here ?_ | refine blk_past rfl ?_ | refine thn_norm ?_ | refine blk_norm ?_ | refine CW.condT rfl ?_ | refine CW.condF rfl ?_ | (refine hK _ _ ?_; clear hK K))
      rw [show decide ((s.1.length : Int) = 0) = true from decide_eq_true hln]
      repeat (first | refine WL.nil ?_ | refine WL.auto (h := ?_) | refine WL.gskip rfl rfl rfl rfl ?_ | refine WL.gauto (h := ?_) | (refine CW.seq ?_; intro K hK) | refine CW.block ?_ | refine CW.region ?_ | refine CW.skip ?_ | refine CW.exit ?_ | refine CW.ret ?_ | (refine thn_ret (K := K) ?_; clear hK K) | refine thn_ret ?_ | refine blk_ret ?_ | (refine thn_exit (K := K) ?_; clear hK K) | refine thn_exit ?_ | refine blk_here ?_ | refine blk_past rfl ?_ | refine thn_norm ?_ | refine blk_norm ?_ | refine CW.condT rfl ?_ | refine CW.condF rfl ?_ | (refine hK _ _ ?_; clear hK K))
      exact out1 (v := .int .i64 s.2) Try.results48 rfl ⟨by rw [e1, h0], hg⟩ (Or.inr rfl)
    · have e1 : rEnd s = 23 := by simp [rEnd, h0, hn]
      have hln : ¬ (s.1.length : Int) = 0 := by have := List.length_pos_iff.2 hn; omega
      repeat (first | refine WL.nil ?_ | refine WL.auto (h := ?_) | refine WL.gskip rfl rfl rfl rfl ?_ | refine WL.gauto (h := ?_) | (refine CW.seq ?_; intro K hK) | refine CW.block ?_ | refine CW.region ?_ | refine CW.skip ?_ | refine CW.exit ?_ | refine CW.ret ?_ | (refine thn_ret (K := K) ?_; clear hK K) | refine thn_ret ?_ | refine blk_ret ?_ | (refine thn_exit (K := K) ?_; clear hK K) | refine thn_exit ?_ | refine blk_here ?_ | refine blk_past rfl ?_ | refine thn_norm ?_ | refine blk_norm ?_ | refine CW.condT rfl ?_ | refine CW.condF rfl ?_ | (refine hK _ _ ?_; clear hK K))
      rw [show decide (¬ s.2 = 0) = false from by simp [h0]]
      repeat (first | refine WL.nil ?_ | refine WL.auto (h := ?_) | refine WL.gskip rfl rfl rfl rfl ?_ | refine WL.gauto (h := ?_) | (refine CW.seq ?_; intro K hK) | refine CW.block ?_ | refine CW.region ?_ | refine CW.skip ?_ | refine CW.exit ?_ | refine CW.ret ?_ | (refine thn_ret (K := K) ?_; clear hK K) | refine thn_ret ?_ | refine blk_ret ?_ | (refine thn_exit (K := K) ?_; clear hK K) | refine thn_exit ?_ | refine blk_here ?_ | refine blk_past rfl ?_ | refine thn_norm ?_ | refine blk_norm ?_ | refine CW.condT rfl ?_ | refine CW.condF rfl ?_ | (refine hK _ _ ?_; clear hK K))
      rw [show decide ((s.1.length : Int) = 0) = false from decide_eq_false hln]
      repeat (first | refine WL.nil ?_ | refine WL.auto (h := ?_) | refine WL.gskip rfl rfl rfl rfl ?_ | refine WL.gauto (h := ?_) | (refine CW.seq ?_; intro K hK) | refine CW.block ?_ | refine CW.region ?_ | refine CW.skip ?_ | refine CW.exit ?_ | refine CW.ret ?_ | (refine thn_ret (K := K) ?_; clear hK K) | refine thn_ret ?_ | refine blk_ret ?_ | (refine thn_exit (K := K) ?_; clear hK K) | refine thn_exit ?_ | refine blk_here ?_ | refine blk_past rfl ?_ | refine thn_norm ?_ | refine blk_norm ?_ | refine CW.condT rfl ?_ | refine CW.condF rfl ?_ | (refine hK _ _ ?_; clear hK K))
      exact out1 (v := .int .i64 23) Try.results48 rfl ⟨by rw [e1], hg⟩ (Or.inr rfl)
  · have e1 : rEnd s = s.2 := by simp [rEnd, h0]
    repeat (first | refine WL.nil ?_ | refine WL.auto (h := ?_) | refine WL.gskip rfl rfl rfl rfl ?_ | refine WL.gauto (h := ?_) | (refine CW.seq ?_; intro K hK) | refine CW.block ?_ | refine CW.region ?_ | refine CW.skip ?_ | refine CW.exit ?_ | refine CW.ret ?_ | (refine thn_ret (K := K) ?_; clear hK K) | refine thn_ret ?_ | refine blk_ret ?_ | (refine thn_exit (K := K) ?_; clear hK K) | refine thn_exit ?_ | refine blk_here ?_ | refine blk_past rfl ?_ | refine thn_norm ?_ | refine blk_norm ?_ | refine CW.condT rfl ?_ | refine CW.condF rfl ?_ | (refine hK _ _ ?_; clear hK K))
    rw [show decide (¬ s.2 = 0) = true from by simp [h0]]
    repeat (first | refine WL.nil ?_ | refine WL.auto (h := ?_) | refine WL.gskip rfl rfl rfl rfl ?_ | refine WL.gauto (h := ?_) | (refine CW.seq ?_; intro K hK) | refine CW.block ?_ | refine CW.region ?_ | refine CW.skip ?_ | refine CW.exit ?_ | refine CW.ret ?_ | (refine thn_ret (K := K) ?_; clear hK K) | refine thn_ret ?_ | refine blk_ret ?_ | (refine thn_exit (K := K) ?_; clear hK K) | refine thn_exit ?_ | refine blk_here ?_ | refine blk_past rfl ?_ | refine thn_norm ?_ | refine blk_norm ?_ | refine CW.condT rfl ?_ | refine CW.condF rfl ?_ | (refine hK _ _ ?_; clear hK K))
    exact out1 (v := .int .i64 s.2) Try.results48 rfl ⟨by rw [e1], hg⟩ (Or.inr rfl)

theorem B45 (rb : Nat) (s : RS) (Z : Nat → Prop) (w : World) (hr : Rd w rb s Z) : Ret Try.prog 45 #[.pointer (some ⟨rb, 0, none⟩)] w fun v w' => (∃ A cap, v = .slice A (rB s).1.length cap ∧ Own w' A 5 1 (rB s).1.length cap (bvs (rB s).1) (fresh w)) ∧ Rd w' rb (rB s).2 Z ∧ Chg (· = rb) w w' := by
  refine Ret.enter (fn := Try.f45) (N := 49) Try.func45 rfl Try.ntmps45 rfl ?_
  obtain ⟨x, ok, s', hq⟩ : ∃ x ok s', rNum s 0 4 = (x, ok, s') := ⟨_, _, _, rfl⟩
  repeat (first | refine WL.nil ?_ | refine WL.auto (h := ?_) | refine WL.gskip rfl rfl rfl rfl ?_ | refine WL.gauto (h := ?_) | (refine CW.seq ?_; intro K hK) | refine CW.block ?_ | refine CW.region ?_ | refine CW.skip ?_ | refine CW.exit ?_ | refine CW.ret ?_ | (refine thn_ret (K := K) ?_; clear hK K) | refine thn_ret ?_ | refine blk_ret ?_ | (refine thn_exit (K := K) ?_; clear hK K) | refine thn_exit ?_ | refine blk_here ?_ | refine blk_past rfl ?_ | refine thn_norm ?_ | refine blk_norm ?_ | refine CW.condT rfl ?_ | refine CW.condF rfl ?_ | (refine hK _ _ ?_; clear hK K))
  refine WL.step rfl ?_
  refine OpW.call ((number76 rb s 0 4 Z w hr (by decide) (by decide)).mono ?_) rfl
  rintro v w1 ⟨rfl, hr1, hc1⟩
  rw [hq] at hr1 ⊢
  cases ok with
  | false =>
    have hx := rNum_false hq
    subst hx
    have e1 : rB s = ([], s') := by simp [rB, hq]
    repeat (first | refine WL.nil ?_ | refine WL.auto (h := ?_) | refine WL.gskip rfl rfl rfl rfl ?_ | refine WL.gauto (h := ?_) | (refine CW.seq ?_; intro K hK) | refine CW.block ?_ | refine CW.region ?_ | refine CW.skip ?_ | refine CW.exit ?_ | refine CW.ret ?_ | (refine thn_ret (K := K) ?_; clear hK K) | refine thn_ret ?_ | refine blk_ret ?_ | (refine thn_exit (K := K) ?_; clear hK K) | refine thn_exit ?_ | refine blk_here ?_ | refine blk_past rfl ?_ | refine thn_norm ?_ | refine blk_norm ?_ | refine CW.condT rfl ?_ | refine CW.condF rfl ?_ | (refine hK _ _ ?_; clear hK K))
    refine out1 (v := .slice none 0 0) Try.results45 rfl ?_ (Or.inr rfl)
    rw [e1]
    exact ⟨⟨none, 0, rfl, Own.nil _ _ _ _⟩, hr1, hc1⟩
  | true =>
    obtain ⟨rfl, hb0, hlen, hx⟩ := rNum_true hq
    obtain ⟨L, bad⟩ := s'
    have hr1' := hr1
    obtain ⟨A, cap, hb, hs, hA, hcap, hL⟩ := hr1
    simp only at hb hs hcap hL hlen hb0
    subst hb0
    repeat (first | refine WL.nil ?_ | refine WL.auto (h := ?_) | refine WL.gskip rfl rfl rfl rfl ?_ | refine WL.gauto (h := ?_) | (refine CW.seq ?_; intro K hK) | refine CW.block ?_ | refine CW.region ?_ | refine CW.skip ?_ | refine CW.exit ?_ | refine CW.ret ?_ | (refine thn_ret (K := K) ?_; clear hK K) | refine thn_ret ?_ | refine blk_ret ?_ | (refine thn_exit (K := K) ?_; clear hK K) | refine thn_exit ?_ | refine blk_here ?_ | refine blk_past rfl ?_ | refine thn_norm ?_ | refine blk_norm ?_ | refine CW.condT rfl ?_ | refine CW.condF rfl ?_ | (refine hK _ _ ?_; clear hK K))
    refine CW.condP (p := (65535 : Int) < (x : Int)) rfl (fun h1 => ?_) (fun h1 => ?_)
    · have e1 : rB (L, 0) = ([], (L, 22)) := by simp only [rB, hq, if_true]; rw [if_pos (by omega)]
      repeat (first | refine WL.nil ?_ | refine WL.auto (h := ?_) | refine WL.gskip rfl rfl rfl rfl ?_ | refine WL.gauto (h := ?_) | (refine CW.seq ?_; intro K hK) | refine CW.block ?_ | refine CW.region ?_ | refine CW.skip ?_ | refine CW.exit ?_ | refine CW.ret ?_ | (refine thn_ret (K := K) ?_; clear hK K) | refine thn_ret ?_ | refine blk_ret ?_ | (refine thn_exit (K := K) ?_; clear hK K) | refine thn_exit ?_ | refine blk_here ?_ | refine blk_past rfl ?_ | refine thn_norm ?_ | refine blk_norm ?_ | refine CW.condT rfl ?_ | refine CW.condF rfl ?_ | (refine hK _ _ ?_; clear hK K))
      refine WL.step0 ?_
      refine OpW.store (v := .int _ _) rfl rfl rfl hb rfl (c' := #[_, _]) rfl ?_
      intro w2 hp hb2
      repeat (first | refine WL.nil ?_ | refine WL.auto (h := ?_) | refine WL.gskip rfl rfl rfl rfl ?_ | refine WL.gauto (h := ?_) | (refine CW.seq ?_; intro K hK) | refine CW.block ?_ | refine CW.region ?_ | refine CW.skip ?_ | refine CW.exit ?_ | refine CW.ret ?_ | (refine thn_ret (K := K) ?_; clear hK K) | refine thn_ret ?_ | refine blk_ret ?_ | (refine thn_exit (K := K) ?_; clear hK K) | refine thn_exit ?_ | refine blk_here ?_ | refine blk_past rfl ?_ | refine thn_norm ?_ | refine blk_norm ?_ | refine CW.condT rfl ?_ | refine CW.condF rfl ?_ | (refine hK _ _ ?_; clear hK K))
      refine out1 (v := .slice none 0 0) Try.results45 rfl ?_ (Or.inr rfl)
      rw [e1]
      exact ⟨⟨none, 0, rfl, Own.nil _ _ _ _⟩, ⟨A, cap, hb2, hs.keep hp.chg fun a ha => (hA a ha).2.2, hA, hcap, hL⟩, hc1.andThen hp.chg⟩
    · have hx2 : x ≤ 65535 := by omega
      obtain ⟨y, ok2, s2, hq2⟩ : ∃ y ok s', rNum (L, 0) (4 + x) 0 = (y, ok, s') := ⟨_, _, _, rfl⟩
      repeat (first | refine WL.nil ?_ | refine WL.auto (h := ?_) | refine WL.gskip rfl rfl rfl rfl ?_ | refine WL.gauto (h := ?_) | (refine CW.seq ?_; intro K hK) | refine CW.block ?_ | refine CW.region ?_ | refine CW.skip ?_ | refine CW.exit ?_ | refine CW.ret ?_ | (refine thn_ret (K := K) ?_; clear hK K) | refine thn_ret ?_ | refine blk_ret ?_ | (refine thn_exit (K := K) ?_; clear hK K) | refine thn_exit ?_ | refine blk_here ?_ | refine blk_past rfl ?_ | refine thn_norm ?_ | refine blk_norm ?_ | refine CW.condT rfl ?_ | refine CW.condF rfl ?_ | (refine hK _ _ ?_; clear hK K))
      refine WL.step rfl ?_
      refine OpW.call ((number76 rb (L, 0) (4 + x) 0 Z w1 hr1' (by decide) (by omega)).mono ?_) rfl
      rintro v w2 ⟨rfl, hr2, hc2⟩
      rw [hq2] at hr2 ⊢
      cases ok2 with
      | false =>
        have hy := rNum_false hq2
        subst hy
        have e1 : rB (L, 0) = ([], s2) := by simp only [rB, hq, if_true]; rw [if_neg (by omega)]; simp [hq2]
        repeat (first | refine WL.nil ?_ | refine WL.auto (h := ?_) | refine WL.gskip rfl rfl rfl rfl ?_ | refine WL.gauto (h := ?_) | (refine CW.seq ?_; intro K hK) | refine CW.block ?_ | refine CW.region ?_ | refine CW.skip ?_ | refine CW.exit ?_ | refine CW.ret ?_ | (refine thn_ret (K := K) ?_; clear hK K) | refine thn_ret ?_ | refine blk_ret ?_ | (refine thn_exit (K := K) ?_; clear hK K) | refine thn_exit ?_ | refine blk_here ?_ | refine blk_past rfl ?_ | refine thn_norm ?_ | refine blk_norm ?_ | refine CW.condT rfl ?_ | refine CW.condF rfl ?_ | (refine hK _ _ ?_; clear hK K))
        refine out1 (v := .slice none 0 0) Try.results45 rfl ?_ (Or.inr rfl)
        rw [e1]
        exact ⟨⟨none, 0, rfl, Own.nil _ _ _ _⟩, hr2, hc1.andThen hc2⟩
      | true =>
        obtain ⟨rfl, _, hlen2, _⟩ := rNum_true hq2
        simp only at hlen2
        have e1 : rB (L, 0) = ((L.drop 4).take x, (L.drop (4 + x), 0)) := by simp only [rB, hq, if_true]; rw [if_neg (by omega)]; simp [hq2]
        clear hb hs hA hcap hL
        obtain ⟨A, cap, hb, hs, hA, hcap, hL⟩ := hr2
        simp only at hb hs hcap hL
        have hlx : ((L.drop 4).take x).length = x := by simp; omega
        repeat (first | refine WL.nil ?_ | refine WL.auto (h := ?_) | refine WL.gskip rfl rfl rfl rfl ?_ | refine WL.gauto (h := ?_) | (refine CW.seq ?_; intro K hK) | refine CW.block ?_ | refine CW.region ?_ | refine CW.skip ?_ | refine CW.exit ?_ | refine CW.ret ?_ | (refine thn_ret (K := K) ?_; clear hK K) | refine thn_ret ?_ | refine blk_ret ?_ | (refine thn_exit (K := K) ?_; clear hK K) | refine thn_exit ?_ | refine blk_here ?_ | refine blk_past rfl ?_ | refine thn_norm ?_ | refine blk_norm ?_ | refine CW.condT rfl ?_ | refine CW.condF rfl ?_ | (refine hK _ _ ?_; clear hK K))
        refine WL.step rfl ?_
        refine OpW.sliceLoHi 4 (4 + x) rfl rfl rfl rfl (by omega) (by omega) (by omega) (fun a ha => (hA a ha).1) ?_
        intro B1 hB1
        rw [show 4 + x - 4 = ((L.drop 4).take x).length by omega]
        have hsB : Sl w2 B1 (bvs ((L.drop 4).take x)) := by
          have h := (hs.drop' 4 (fun a ha => (hA a ha).1) B1 (by rcases hB1 with ⟨h1, h2⟩ | h1; exact Or.inl ⟨h1, by rw [bvs_length]; omega⟩; exact Or.inr (by simpa using h1))).take x
          rwa [bvs_drop, bvs_take] at h
        refine WL.step rfl ?_
        refine OpW.call ((clone73 _ _ _ _ hsB (by omega)).mono ?_) rfl
        rintro v w3 ⟨A', cap', rfl, ho, hg⟩
        have hb3 := hb.grow hg
        repeat (first | refine WL.nil ?_ | refine WL.auto (h := ?_) | refine WL.gskip rfl rfl rfl rfl ?_ | refine WL.gauto (h := ?_) | (refine CW.seq ?_; intro K hK) | refine CW.block ?_ | refine CW.region ?_ | refine CW.skip ?_ | refine CW.exit ?_ | refine CW.ret ?_ | (refine thn_ret (K := K) ?_; clear hK K) | refine thn_ret ?_ | refine blk_ret ?_ | (refine thn_exit (K := K) ?_; clear hK K) | refine thn_exit ?_ | refine blk_here ?_ | refine blk_past rfl ?_ | refine thn_norm ?_ | refine blk_norm ?_ | refine CW.condT rfl ?_ | refine CW.condF rfl ?_ | (refine hK _ _ ?_; clear hK K))
        refine WL.step rfl ?_
        refine OpW.sliceLo (4 + x) rfl rfl rfl (by omega) (fun a ha => (hA a ha).1) ?_
        intro B hB
        repeat (first | refine WL.nil ?_ | refine WL.auto (h := ?_) | refine WL.gskip rfl rfl rfl rfl ?_ | refine WL.gauto (h := ?_) | (refine CW.seq ?_; intro K hK) | refine CW.block ?_ | refine CW.region ?_ | refine CW.skip ?_ | refine CW.exit ?_ | refine CW.ret ?_ | (refine thn_ret (K := K) ?_; clear hK K) | refine thn_ret ?_ | refine blk_ret ?_ | (refine thn_exit (K := K) ?_; clear hK K) | refine thn_exit ?_ | refine blk_here ?_ | refine blk_past rfl ?_ | refine thn_norm ?_ | refine blk_norm ?_ | refine CW.condT rfl ?_ | refine CW.condF rfl ?_ | (refine hK _ _ ?_; clear hK K))
        refine WL.step0 ?_
        refine OpW.store (v := .slice _ _ _) rfl rfl rfl hb3 rfl (c' := #[_, _]) rfl ?_
        intro w4 hp hb4
        repeat (first | refine WL.nil ?_ | refine WL.auto (h := ?_) | refine WL.gskip rfl rfl rfl rfl ?_ | refine WL.gauto (h := ?_) | (refine CW.seq ?_; intro K hK) | refine CW.block ?_ | refine CW.region ?_ | refine CW.skip ?_ | refine CW.exit ?_ | refine CW.ret ?_ | (refine thn_ret (K := K) ?_; clear hK K) | refine thn_ret ?_ | refine blk_ret ?_ | (refine thn_exit (K := K) ?_; clear hK K) | refine thn_exit ?_ | refine blk_here ?_ | refine blk_past rfl ?_ | refine thn_norm ?_ | refine blk_norm ?_ | refine CW.condT rfl ?_ | refine CW.condF rfl ?_ | (refine hK _ _ ?_; clear hK K))
        refine out1 (v := .slice A' _ cap') Try.results45 rfl ?_ (Or.inr rfl)
        rw [e1]
        refine ⟨⟨A', cap', rfl, ?_⟩, Rd.cut (hs.grow hg) hA hcap hL (by omega) hB hp hb4, (hc1.andThen hc2).andThen ((Chg.to hg).andThen hp.chg)⟩
        refine (ho.keep' hp.chg fun a ha => ?_).mono fun g hgf => Nat.le_trans (Nat.le_trans hc1.size hc2.size) hgf
        have h1 := (ho.in_ ha).1
        have h2 := hb.lt
        unfold fresh at h1
        omega

theorem T46 (rb : Nat) (s : RS) (Z : Nat → Prop) (w : World) (hr : Rd w rb s Z) : Ret Try.prog 46 #[.pointer (some ⟨rb, 0, none⟩)] w fun v w' => v = .string (bstr (rB s).1) ∧ Rd w' rb (rB s).2 Z ∧ Chg (· = rb) w w' := by
  refine Ret.enter (fn := Try.f46) (N := 6) Try.func46 rfl Try.ntmps46 rfl ?_
  repeat (first | refine WL.nil ?_ | refine WL.auto (h := ?_) | refine WL.gskip rfl rfl rfl rfl ?_ | refine WL.gauto (h := ?_) | (refine CW.seq ?_; intro K hK) | refine CW.block ?_ | refine CW.region ?_ | refine CW.skip ?_ | refine CW.exit ?_ | refine CW.ret ?_ | (refine thn_ret (K := K) ?_; clear hK K) | refine thn_ret ?_ | refine blk_ret ?_ | (refine thn_exit (K := K) ?_; clear hK K) | refine thn_exit ?_ | refine blk_here ?_ | refine blk_past rfl ?_ | refine thn_norm ?_ | refine blk_norm ?_ | refine CW.condT rfl ?_ | refine CW.condF rfl ?_ | (refine hK _ _ ?_; clear hK K))
  refine WL.step rfl ?_
  refine OpW.call ((B45 rb s Z w hr).mono ?_) rfl
  rintro v w1 ⟨⟨A, cap, rfl, ho⟩, hr1, hc1⟩
  refine WL.step rfl ?_
  refine OpW.toStr rfl ho.sl rfl ?_
  repeat (first | refine WL.nil ?_ | refine WL.auto (h := ?_) | refine WL.gskip rfl rfl rfl rfl ?_ | refine WL.gauto (h := ?_) | (refine CW.seq ?_; intro K hK) | refine CW.block ?_ | refine CW.region ?_ | refine CW.skip ?_ | refine CW.exit ?_ | refine CW.ret ?_ | (refine thn_ret (K := K) ?_; clear hK K) | refine thn_ret ?_ | refine blk_ret ?_ | (refine thn_exit (K := K) ?_; clear hK K) | refine thn_exit ?_ | refine blk_here ?_ | refine blk_past rfl ?_ | refine thn_norm ?_ | refine blk_norm ?_ | refine CW.condT rfl ?_ | refine CW.condF rfl ?_ | (refine hK _ _ ?_; clear hK K))
  exact out1 (v := .string _) Try.results46 rfl ⟨rfl, hr1, hc1⟩ (Or.inr rfl)
end B
end Go.Proofs.Ytlofcomnhecgfaa
