/- A nil reader's answers; plain: what is taken is what the like put makes. No conditions. -/
import Derived.Test.YtlofcomnhecgfaaWireE
import Derived.Test.YtlofcomnhecgfaaCodec
import Derived.Test.YtlofcomnhecgfaaRefC
namespace Go.Proofs.Ytlofcomnhecgfaa
namespace B
attribute [local irreducible] OpW WL CW Ret Sl Blk thn blk outOf
set_option linter.unusedVariables false
set_option linter.unusedSimpArgs false

theorem numberNil (a n : Int) (w : World) : Ret Try.prog 76 #[.pointer none, .int .i64 a, .int .i64 n] w fun v w' => v = .tuple #[.int .u64 0, .bool false] ∧ Grow w w' := by
  refine Ret.enter (fn := Try.f76) (N := 53) Try.func76 rfl Try.ntmps76 rfl ?_
  repeat (first | refine WL.nil ?_ | refine WL.auto (h := ?_) | refine WL.gskip rfl rfl rfl rfl ?_ | refine WL.gskipU rfl rfl rfl rfl ?_ | refine WL.gauto (h := ?_) | (refine CW.seq ?_; intro K hK) | refine CW.block ?_ | refine CW.region ?_ | refine CW.skip ?_ | refine CW.exit ?_ | refine CW.ret ?_ | (refine thn_ret (K := K) ?_; clear hK K) | refine thn_ret ?_ | refine blk_ret ?_ | (refine thn_exit (K := K) ?_; clear hK K) | refine thn_exit ?_ | refine blk_here ?_ | refine blk_past rfl ?_ | refine thn_norm ?_ | refine blk_norm ?_ | refine CW.condT rfl ?_ | refine CW.condF rfl ?_ | (refine hK _ _ ?_; clear hK K))
  exact out2 (v1 := .int .u64 0) (v2 := .bool false) Try.results76 rfl rfl ⟨rfl, Chg.refl _ _⟩ (Or.inr rfl)
theorem NNil (w : World) : Ret Try.prog 44 #[.pointer none] w fun v w' => v = .int .u64 0 ∧ Grow w w' := by
  refine Ret.enter (fn := Try.f44) (N := 20) Try.func44 rfl Try.ntmps44 rfl ?_
  repeat (first | refine WL.nil ?_ | refine WL.auto (h := ?_) | refine WL.gskip rfl rfl rfl rfl ?_ | refine WL.gskipU rfl rfl rfl rfl ?_ | refine WL.gauto (h := ?_) | (refine CW.seq ?_; intro K hK) | refine CW.block ?_ | refine CW.region ?_ | refine CW.skip ?_ | refine CW.exit ?_ | refine CW.ret ?_ | (refine thn_ret (K := K) ?_; clear hK K) | refine thn_ret ?_ | refine blk_ret ?_ | (refine thn_exit (K := K) ?_; clear hK K) | refine thn_exit ?_ | refine blk_here ?_ | refine blk_past rfl ?_ | refine thn_norm ?_ | refine blk_norm ?_ | refine CW.condT rfl ?_ | refine CW.condF rfl ?_ | (refine hK _ _ ?_; clear hK K))
  first | refine WL.step rfl ?_ | refine WL.gstep rfl rfl rfl rfl ?_
  refine OpW.call ((numberNil 0 8 w).mono ?_) rfl
  rintro v w1 ⟨rfl, g1⟩
  repeat (first | refine WL.nil ?_ | refine WL.auto (h := ?_) | refine WL.gskip rfl rfl rfl rfl ?_ | refine WL.gskipU rfl rfl rfl rfl ?_ | refine WL.gauto (h := ?_) | (refine CW.seq ?_; intro K hK) | refine CW.block ?_ | refine CW.region ?_ | refine CW.skip ?_ | refine CW.exit ?_ | refine CW.ret ?_ | (refine thn_ret (K := K) ?_; clear hK K) | refine thn_ret ?_ | refine blk_ret ?_ | (refine thn_exit (K := K) ?_; clear hK K) | refine thn_exit ?_ | refine blk_here ?_ | refine blk_past rfl ?_ | refine thn_norm ?_ | refine blk_norm ?_ | refine CW.condT rfl ?_ | refine CW.condF rfl ?_ | (refine hK _ _ ?_; clear hK K))
  exact out1 (v := .int .u64 0) Try.results44 rfl ⟨rfl, g1⟩ (Or.inr rfl)
theorem CountNil (most : Int) (w : World) : Ret Try.prog 55 #[.pointer none, .int .i64 most] w fun v w' => v = .int .i64 0 ∧ Grow w w' := by
  refine Ret.enter (fn := Try.f55) (N := 35) Try.func55 rfl Try.ntmps55 rfl ?_
  repeat (first | refine WL.nil ?_ | refine WL.auto (h := ?_) | refine WL.gskip rfl rfl rfl rfl ?_ | refine WL.gskipU rfl rfl rfl rfl ?_ | refine WL.gauto (h := ?_) | (refine CW.seq ?_; intro K hK) | refine CW.block ?_ | refine CW.region ?_ | refine CW.skip ?_ | refine CW.exit ?_ | refine CW.ret ?_ | (refine thn_ret (K := K) ?_; clear hK K) | refine thn_ret ?_ | refine blk_ret ?_ | (refine thn_exit (K := K) ?_; clear hK K) | refine thn_exit ?_ | refine blk_here ?_ | refine blk_past rfl ?_ | refine thn_norm ?_ | refine blk_norm ?_ | refine CW.condT rfl ?_ | refine CW.condF rfl ?_ | (refine hK _ _ ?_; clear hK K))
  first | refine WL.step rfl ?_ | refine WL.gstep rfl rfl rfl rfl ?_
  refine OpW.call ((numberNil 0 8 w).mono ?_) rfl
  rintro v w1 ⟨rfl, g1⟩
  repeat (first | refine WL.nil ?_ | refine WL.auto (h := ?_) | refine WL.gskip rfl rfl rfl rfl ?_ | refine WL.gskipU rfl rfl rfl rfl ?_ | refine WL.gauto (h := ?_) | (refine CW.seq ?_; intro K hK) | refine CW.block ?_ | refine CW.region ?_ | refine CW.skip ?_ | refine CW.exit ?_ | refine CW.ret ?_ | (refine thn_ret (K := K) ?_; clear hK K) | refine thn_ret ?_ | refine blk_ret ?_ | (refine thn_exit (K := K) ?_; clear hK K) | refine thn_exit ?_ | refine blk_here ?_ | refine blk_past rfl ?_ | refine thn_norm ?_ | refine blk_norm ?_ | refine CW.condT rfl ?_ | refine CW.condF rfl ?_ | (refine hK _ _ ?_; clear hK K))
  exact out1 (v := .int .i64 0) Try.results55 rfl ⟨rfl, g1⟩ (Or.inr rfl)
theorem BNil (w : World) : Ret Try.prog 45 #[.pointer none] w fun v w' => v = .slice none 0 0 ∧ Grow w w' := by
  refine Ret.enter (fn := Try.f45) (N := 49) Try.func45 rfl Try.ntmps45 rfl ?_
  repeat (first | refine WL.nil ?_ | refine WL.auto (h := ?_) | refine WL.gskip rfl rfl rfl rfl ?_ | refine WL.gskipU rfl rfl rfl rfl ?_ | refine WL.gauto (h := ?_) | (refine CW.seq ?_; intro K hK) | refine CW.block ?_ | refine CW.region ?_ | refine CW.skip ?_ | refine CW.exit ?_ | refine CW.ret ?_ | (refine thn_ret (K := K) ?_; clear hK K) | refine thn_ret ?_ | refine blk_ret ?_ | (refine thn_exit (K := K) ?_; clear hK K) | refine thn_exit ?_ | refine blk_here ?_ | refine blk_past rfl ?_ | refine thn_norm ?_ | refine blk_norm ?_ | refine CW.condT rfl ?_ | refine CW.condF rfl ?_ | (refine hK _ _ ?_; clear hK K))
  first | refine WL.step rfl ?_ | refine WL.gstep rfl rfl rfl rfl ?_
  refine OpW.call ((numberNil 0 4 w).mono ?_) rfl
  rintro v w1 ⟨rfl, g1⟩
  repeat (first | refine WL.nil ?_ | refine WL.auto (h := ?_) | refine WL.gskip rfl rfl rfl rfl ?_ | refine WL.gskipU rfl rfl rfl rfl ?_ | refine WL.gauto (h := ?_) | (refine CW.seq ?_; intro K hK) | refine CW.block ?_ | refine CW.region ?_ | refine CW.skip ?_ | refine CW.exit ?_ | refine CW.ret ?_ | (refine thn_ret (K := K) ?_; clear hK K) | refine thn_ret ?_ | refine blk_ret ?_ | (refine thn_exit (K := K) ?_; clear hK K) | refine thn_exit ?_ | refine blk_here ?_ | refine blk_past rfl ?_ | refine thn_norm ?_ | refine blk_norm ?_ | refine CW.condT rfl ?_ | refine CW.condF rfl ?_ | (refine hK _ _ ?_; clear hK K))
  exact out1 (v := .slice none 0 0) Try.results45 rfl ⟨rfl, g1⟩ (Or.inr rfl)
theorem TNil (w : World) : Ret Try.prog 46 #[.pointer none] w fun v w' => v = .string (bstr []) ∧ Grow w w' := by
  refine Ret.enter (fn := Try.f46) (N := 6) Try.func46 rfl Try.ntmps46 rfl ?_
  repeat (first | refine WL.nil ?_ | refine WL.auto (h := ?_) | refine WL.gskip rfl rfl rfl rfl ?_ | refine WL.gskipU rfl rfl rfl rfl ?_ | refine WL.gauto (h := ?_) | (refine CW.seq ?_; intro K hK) | refine CW.block ?_ | refine CW.region ?_ | refine CW.skip ?_ | refine CW.exit ?_ | refine CW.ret ?_ | (refine thn_ret (K := K) ?_; clear hK K) | refine thn_ret ?_ | refine blk_ret ?_ | (refine thn_exit (K := K) ?_; clear hK K) | refine thn_exit ?_ | refine blk_here ?_ | refine blk_past rfl ?_ | refine thn_norm ?_ | refine blk_norm ?_ | refine CW.condT rfl ?_ | refine CW.condF rfl ?_ | (refine hK _ _ ?_; clear hK K))
  first | refine WL.step rfl ?_ | refine WL.gstep rfl rfl rfl rfl ?_
  refine OpW.call ((BNil w).mono ?_) rfl
  rintro v w1 ⟨rfl, g1⟩
  repeat (first | refine WL.nil ?_ | refine WL.auto (h := ?_) | refine WL.gskip rfl rfl rfl rfl ?_ | refine WL.gskipU rfl rfl rfl rfl ?_ | refine WL.gauto (h := ?_) | (refine CW.seq ?_; intro K hK) | refine CW.block ?_ | refine CW.region ?_ | refine CW.skip ?_ | refine CW.exit ?_ | refine CW.ret ?_ | (refine thn_ret (K := K) ?_; clear hK K) | refine thn_ret ?_ | refine blk_ret ?_ | (refine thn_exit (K := K) ?_; clear hK K) | refine thn_exit ?_ | refine blk_here ?_ | refine blk_past rfl ?_ | refine thn_norm ?_ | refine blk_norm ?_ | refine CW.condT rfl ?_ | refine CW.condF rfl ?_ | (refine hK _ _ ?_; clear hK K))
  first | refine WL.step rfl ?_ | refine WL.gstep rfl rfl rfl rfl ?_
  refine OpW.toStr (l := []) rfl (Sl.nil _ _) rfl ?_
  repeat (first | refine WL.nil ?_ | refine WL.auto (h := ?_) | refine WL.gskip rfl rfl rfl rfl ?_ | refine WL.gskipU rfl rfl rfl rfl ?_ | refine WL.gauto (h := ?_) | (refine CW.seq ?_; intro K hK) | refine CW.block ?_ | refine CW.region ?_ | refine CW.skip ?_ | refine CW.exit ?_ | refine CW.ret ?_ | (refine thn_ret (K := K) ?_; clear hK K) | refine thn_ret ?_ | refine blk_ret ?_ | (refine thn_exit (K := K) ?_; clear hK K) | refine thn_exit ?_ | refine blk_here ?_ | refine blk_past rfl ?_ | refine thn_norm ?_ | refine blk_norm ?_ | refine CW.condT rfl ?_ | refine CW.condF rfl ?_ | (refine hK _ _ ?_; clear hK K))
  exact out1 Try.results46 rfl ⟨rfl, g1⟩ (Or.inr rfl)
theorem FNil (w : World) : Ret Try.prog 47 #[.pointer none] w fun v w' => v = .bool false ∧ Grow w w' := by
  refine Ret.enter (fn := Try.f47) (N := 27) Try.func47 rfl Try.ntmps47 rfl ?_
  repeat (first | refine WL.nil ?_ | refine WL.auto (h := ?_) | refine WL.gskip rfl rfl rfl rfl ?_ | refine WL.gskipU rfl rfl rfl rfl ?_ | refine WL.gauto (h := ?_) | (refine CW.seq ?_; intro K hK) | refine CW.block ?_ | refine CW.region ?_ | refine CW.skip ?_ | refine CW.exit ?_ | refine CW.ret ?_ | (refine thn_ret (K := K) ?_; clear hK K) | refine thn_ret ?_ | refine blk_ret ?_ | (refine thn_exit (K := K) ?_; clear hK K) | refine thn_exit ?_ | refine blk_here ?_ | refine blk_past rfl ?_ | refine thn_norm ?_ | refine blk_norm ?_ | refine CW.condT rfl ?_ | refine CW.condF rfl ?_ | (refine hK _ _ ?_; clear hK K))
  first | refine WL.step rfl ?_ | refine WL.gstep rfl rfl rfl rfl ?_
  refine OpW.call ((numberNil 0 1 w).mono ?_) rfl
  rintro v w1 ⟨rfl, g1⟩
  repeat (first | refine WL.nil ?_ | refine WL.auto (h := ?_) | refine WL.gskip rfl rfl rfl rfl ?_ | refine WL.gskipU rfl rfl rfl rfl ?_ | refine WL.gauto (h := ?_) | (refine CW.seq ?_; intro K hK) | refine CW.block ?_ | refine CW.region ?_ | refine CW.skip ?_ | refine CW.exit ?_ | refine CW.ret ?_ | (refine thn_ret (K := K) ?_; clear hK K) | refine thn_ret ?_ | refine blk_ret ?_ | (refine thn_exit (K := K) ?_; clear hK K) | refine thn_exit ?_ | refine blk_here ?_ | refine blk_past rfl ?_ | refine thn_norm ?_ | refine blk_norm ?_ | refine CW.condT rfl ?_ | refine CW.condF rfl ?_ | (refine hK _ _ ?_; clear hK K))
  exact out1 (v := .bool false) Try.results47 rfl ⟨rfl, g1⟩ (Or.inr rfl)
theorem LeftNil (w : World) : Ret Try.prog 49 #[.pointer none] w fun v w' => v = .int .i64 0 ∧ Grow w w' := by
  refine Ret.enter (fn := Try.f49) (N := 10) Try.func49 rfl Try.ntmps49 rfl ?_
  repeat (first | refine WL.nil ?_ | refine WL.auto (h := ?_) | refine WL.gskip rfl rfl rfl rfl ?_ | refine WL.gskipU rfl rfl rfl rfl ?_ | refine WL.gauto (h := ?_) | (refine CW.seq ?_; intro K hK) | refine CW.block ?_ | refine CW.region ?_ | refine CW.skip ?_ | refine CW.exit ?_ | refine CW.ret ?_ | (refine thn_ret (K := K) ?_; clear hK K) | refine thn_ret ?_ | refine blk_ret ?_ | (refine thn_exit (K := K) ?_; clear hK K) | refine thn_exit ?_ | refine blk_here ?_ | refine blk_past rfl ?_ | refine thn_norm ?_ | refine blk_norm ?_ | refine CW.condT rfl ?_ | refine CW.condF rfl ?_ | (refine hK _ _ ?_; clear hK K))
  exact out1 (v := .int .i64 0) Try.results49 rfl ⟨rfl, Chg.refl _ _⟩ (Or.inr rfl)
theorem ErrNil (w : World) : Ret Try.prog 54 #[.pointer none] w fun v w' => v = .int .i64 1 ∧ Grow w w' := by
  refine Ret.enter (fn := Try.f54) (N := 9) Try.func54 rfl Try.ntmps54 rfl ?_
  repeat (first | refine WL.nil ?_ | refine WL.auto (h := ?_) | refine WL.gskip rfl rfl rfl rfl ?_ | refine WL.gskipU rfl rfl rfl rfl ?_ | refine WL.gauto (h := ?_) | (refine CW.seq ?_; intro K hK) | refine CW.block ?_ | refine CW.region ?_ | refine CW.skip ?_ | refine CW.exit ?_ | refine CW.ret ?_ | (refine thn_ret (K := K) ?_; clear hK K) | refine thn_ret ?_ | refine blk_ret ?_ | (refine thn_exit (K := K) ?_; clear hK K) | refine thn_exit ?_ | refine blk_here ?_ | refine blk_past rfl ?_ | refine thn_norm ?_ | refine blk_norm ?_ | refine CW.condT rfl ?_ | refine CW.condF rfl ?_ | (refine hK _ _ ?_; clear hK K))
  exact out1 (v := .int .i64 1) Try.results54 rfl ⟨rfl, Chg.refl _ _⟩ (Or.inr rfl)
theorem EndNil (w : World) : Ret Try.prog 48 #[.pointer none] w fun v w' => v = .int .i64 1 ∧ Grow w w' := by
  refine Ret.enter (fn := Try.f48) (N := 17) Try.func48 rfl Try.ntmps48 rfl ?_
  repeat (first | refine WL.nil ?_ | refine WL.auto (h := ?_) | refine WL.gskip rfl rfl rfl rfl ?_ | refine WL.gskipU rfl rfl rfl rfl ?_ | refine WL.gauto (h := ?_) | (refine CW.seq ?_; intro K hK) | refine CW.block ?_ | refine CW.region ?_ | refine CW.skip ?_ | refine CW.exit ?_ | refine CW.ret ?_ | (refine thn_ret (K := K) ?_; clear hK K) | refine thn_ret ?_ | refine blk_ret ?_ | (refine thn_exit (K := K) ?_; clear hK K) | refine thn_exit ?_ | refine blk_here ?_ | refine blk_past rfl ?_ | refine thn_norm ?_ | refine blk_norm ?_ | refine CW.condT rfl ?_ | refine CW.condF rfl ?_ | (refine hK _ _ ?_; clear hK K))
  first | refine WL.step rfl ?_ | refine WL.gstep rfl rfl rfl rfl ?_
  refine OpW.call ((ErrNil w).mono ?_) rfl
  rintro v w1 ⟨rfl, g1⟩
  repeat (first | refine WL.nil ?_ | refine WL.auto (h := ?_) | refine WL.gskip rfl rfl rfl rfl ?_ | refine WL.gskipU rfl rfl rfl rfl ?_ | refine WL.gauto (h := ?_) | (refine CW.seq ?_; intro K hK) | refine CW.block ?_ | refine CW.region ?_ | refine CW.skip ?_ | refine CW.exit ?_ | refine CW.ret ?_ | (refine thn_ret (K := K) ?_; clear hK K) | refine thn_ret ?_ | refine blk_ret ?_ | (refine thn_exit (K := K) ?_; clear hK K) | refine thn_exit ?_ | refine blk_here ?_ | refine blk_past rfl ?_ | refine thn_norm ?_ | refine blk_norm ?_ | refine CW.condT rfl ?_ | refine CW.condF rfl ?_ | (refine hK _ _ ?_; clear hK K))
  exact out1 (v := .int .i64 1) Try.results48 rfl ⟨rfl, g1⟩ (Or.inr rfl)

/-! ### Plain -/
/-- What was put anew from what was taken, the state before, the state behind. -/
def TakeOk (q : List UInt8) (s s' : RS) : Prop :=
  (s.2 ≠ 0 ∧ s' = s) ∨ (s.2 = 0 ∧ s'.2 ≠ 0 ∧ s'.1 = s.1) ∨ (s.2 = 0 ∧ s'.2 = 0 ∧ ∃ m, m ≤ s.1.length ∧ s'.1 = s.1.drop m ∧ q = s.1.take m)

theorem byte_of {n : Nat} {c : UInt8} (h : n % 256 = c.toNat) : UInt8.ofNat n = c := by
  apply UInt8.toNat.inj
  simpa using h
theorem beN_numOf {l : List UInt8} (h : l.length = 8) : beN (numOf l) = l := by
  match l, h with
  | [a, b, c, d, e, f, g, i], _ =>
    have ha := a.toNat_lt; have hb := b.toNat_lt; have hc := c.toNat_lt; have hd := d.toNat_lt
    have he := e.toNat_lt; have hf := f.toNat_lt; have hg := g.toNat_lt; have hi := i.toNat_lt
    simp only [numOf, List.foldl_cons, List.foldl_nil, beN]
    congr 1
    · exact byte_of (by omega)
    congr 1
    · exact byte_of (by omega)
    congr 1
    · exact byte_of (by omega)
    congr 1
    · exact byte_of (by omega)
    congr 1
    · exact byte_of (by omega)
    congr 1
    · exact byte_of (by omega)
    congr 1
    · exact byte_of (by omega)
    congr 1
    · exact byte_of (by omega)
theorem be4_numOf {l : List UInt8} (h : l.length = 4) (hn : numOf l ≤ 65535) : be4 (numOf l) = l := by
  match l, h with
  | [a, b, c, d], _ =>
    have ha := a.toNat_lt; have hb := b.toNat_lt; have hc := c.toNat_lt; have hd := d.toNat_lt
    simp only [numOf, List.foldl_cons, List.foldl_nil, be4] at hn ⊢
    have ea : a = 0 := UInt8.toNat.inj (by show a.toNat = 0; omega)
    have eb : b = 0 := UInt8.toNat.inj (by show b.toNat = 0; omega)
    subst ea eb
    have e0 : (0 : UInt8).toNat = 0 := rfl
    rw [e0] at hn ⊢
    congr 2
    congr 1
    · exact byte_of (by omega)
    congr 1
    · exact byte_of (by omega)
theorem take_N (s : RS) : TakeOk (putN [] (rN s).1) s (rN s).2 := by
  obtain ⟨L, bad⟩ := s
  by_cases h1 : bad = 0
  · subst h1
    by_cases h2 : L.length < 8
    · have : rN (L, 0) = (0, (L, 20)) := by unfold rN; rw [rNum_short (by omega)]; rfl
      rw [this]; exact Or.inr (Or.inl ⟨rfl, by simp, rfl⟩)
    · have : rN (L, 0) = (numOf (L.take 8), (L.drop 8, 0)) := by unfold rN; rw [rNum_good (by omega)]; rfl
      rw [this]
      refine Or.inr (Or.inr ⟨rfl, rfl, 8, by simp only; omega, rfl, ?_⟩)
      simp only [putN, List.nil_append]
      exact beN_numOf (by simp; omega)
  · have : rN (L, bad) = (0, (L, bad)) := by unfold rN rNum; rw [if_pos h1]; rfl
    rw [this]; exact Or.inl ⟨h1, rfl⟩
theorem take_F (s : RS) : TakeOk (putF [] (rF s).1) s (rF s).2 := by
  obtain ⟨L, bad⟩ := s
  by_cases h1 : bad = 0
  · subst h1
    cases L with
    | nil =>
      have : rF ([], 0) = (false, ([], 20)) := rfl
      rw [this]; exact Or.inr (Or.inl ⟨rfl, by simp, rfl⟩)
    | cons c L =>
      have e0 : rNum (c :: L, 0) 0 1 = (c.toNat, true, (c :: L, 0)) := by unfold rNum; rw [if_neg (by simp), if_neg (by simp)]; simp [numOf]
      unfold rF
      rw [e0]
      simp only [if_true]
      by_cases h2 : 1 < c.toNat
      · rw [if_pos h2]; exact Or.inr (Or.inl ⟨rfl, by simp, rfl⟩)
      · rw [if_neg h2]
        refine Or.inr (Or.inr ⟨rfl, rfl, 1, by simp, rfl, ?_⟩)
        simp only [putF, List.nil_append, List.take_succ_cons, List.take_zero, List.cons.injEq, and_true]
        apply UInt8.toNat.inj
        by_cases h3 : c.toNat = 1
        · simp [h3]
        · have : c.toNat = 0 := by omega
          simp [this]
  · have : rF (L, bad) = (false, (L, bad)) := by unfold rF rNum; rw [if_pos h1]; rfl
    rw [this]; exact Or.inl ⟨h1, rfl⟩
theorem take_B (s : RS) : TakeOk (putB [] (rB s).1) s (rB s).2 := by
  obtain ⟨L, bad⟩ := s
  by_cases h1 : bad = 0
  · subst h1
    by_cases h2 : L.length < 4
    · have : rB (L, 0) = ([], (L, 20)) := by unfold rB; rw [rNum_short (by omega)]; rfl
      rw [this]; exact Or.inr (Or.inl ⟨rfl, by simp, rfl⟩)
    · have e0 : rNum (L, 0) 0 4 = (numOf (L.take 4), true, (L, 0)) := by unfold rNum; rw [if_neg (by simp), if_neg (by simpa using h2)]; rfl
      unfold rB
      rw [e0]
      simp only [if_true]
      by_cases h3 : 65535 < numOf (L.take 4)
      · rw [if_pos h3]; exact Or.inr (Or.inl ⟨rfl, by simp, rfl⟩)
      · rw [if_neg h3]
        by_cases h4 : L.length < 4 + numOf (L.take 4)
        · have e5 : rNum (L, 0) (4 + numOf (L.take 4)) 0 = (0, false, (L, 20)) := by unfold rNum; rw [if_neg (by simp), if_pos (by simpa using h4)]
          rw [e5]; exact Or.inr (Or.inl ⟨rfl, by simp, rfl⟩)
        · have e5 : rNum (L, 0) (4 + numOf (L.take 4)) 0 = (0, true, (L, 0)) := by unfold rNum; rw [if_neg (by simp), if_neg (by simpa using h4)]; simp [numOf]
          rw [e5]
          simp only [if_true]
          refine Or.inr (Or.inr ⟨rfl, rfl, 4 + numOf (L.take 4), by simp only; omega, rfl, ?_⟩)
          have hx : ((L.drop 4).take (numOf (L.take 4))).length = numOf (L.take 4) := by simp; omega
          have hf : fld ((L.drop 4).take (numOf (L.take 4))) = (L.drop 4).take (numOf (L.take 4)) := List.take_of_length_le (by omega)
          simp only [putB, List.nil_append]
          rw [hf, hx, be4_numOf (by simp; omega) (by omega), List.take_add]
  · have : rB (L, bad) = ([], (L, bad)) := by unfold rB rNum; rw [if_pos h1]; rfl
    rw [this]; exact Or.inl ⟨h1, rfl⟩
end B
end Go.Proofs.Ytlofcomnhecgfaa
