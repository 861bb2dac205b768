/- math/bits.Div64: a number of 128 bits by one of 64. -/
import Derived.Test.YtbcmmamipjbfpaaDoorLimbI
import Derived.Test.YtbcmmamipjbfpaaDoorLimbD
namespace Go.Proofs.YtbcmmamipjbfpaaDoor
namespace B
attribute [local irreducible] OpW WL CW Ret Sl Blk thn blk outOf
set_option linter.unusedVariables false
set_option linter.unusedSimpArgs false
set_option maxRecDepth 4000

theorem K_of' {K : Env → World → Prop} {f : Env → Env} {E : Env} {w : World} (key : ∀ e0, K (f e0) w) (h : ∃ e0, E = f e0) : K E w := by
  obtain ⟨e0, rfl⟩ := h
  exact key e0
theorem lead (y : Nat) (hy : 0 < y) (hy2 : y < m64) : ∃ s : Nat, s < 64 ∧ (64 - (Lib.bitLen y : Int)) = (s : Int) ∧ 9223372036854775808 ≤ y * 2 ^ s ∧ y * 2 ^ s < m64 := by
  obtain ⟨h1, h2, h3⟩ := Lib.bitLenAux_bounds 64 y (by unfold m64 at hy2; exact hy2) (by omega)
  have h4 : Lib.bitLen y ≤ 64 := Lib.bitLen_le y 64 (by omega) (by unfold m64 at hy2; exact hy2)
  have e : Lib.bitLen y = Lib.bitLenAux 64 y := rfl
  rw [← e] at h1 h2 h3
  refine ⟨64 - Lib.bitLen y, by omega, by omega, ?_, ?_⟩
  · have : 2 ^ (Lib.bitLen y - 1) * 2 ^ (64 - Lib.bitLen y) ≤ y * 2 ^ (64 - Lib.bitLen y) := Nat.mul_le_mul_right _ h2
    rw [← Nat.pow_add, show Lib.bitLen y - 1 + (64 - Lib.bitLen y) = 63 from by omega] at this
    exact this
  · have : y * 2 ^ (64 - Lib.bitLen y) < 2 ^ Lib.bitLen y * 2 ^ (64 - Lib.bitLen y) := Nat.mul_lt_mul_of_pos_right h3 (Nat.pow_pos (by decide))
    rw [← Nat.pow_add, show Lib.bitLen y + (64 - Lib.bitLen y) = 64 from by omega] at this
    exact this
/-- The number, shifted so that the divisor's highest bit is set. -/
theorem div_norm {hi lo y s : Nat} (hlt : hi < y) (hlo : lo < m64) (hs : s < 64) (hY : y * 2 ^ s < m64) :
    hi * 2 ^ s < m64 ∧ lo / 2 ^ (64 - s) < 2 ^ s ∧ hi * 2 ^ s + lo / 2 ^ (64 - s) < y * 2 ^ s ∧ (hi * m64 + lo) * 2 ^ s = (hi * 2 ^ s + lo / 2 ^ (64 - s)) * m64 + lo * 2 ^ s % m64 := by
  have hp : 0 < 2 ^ s := Nat.pow_pos (by decide)
  have em : m64 = 2 ^ (64 - s) * 2 ^ s := by rw [← Nat.pow_add, show 64 - s + s = 64 from by omega]; rfl
  have h1 : lo / 2 ^ (64 - s) < 2 ^ s := by
    rw [Nat.div_lt_iff_lt_mul (Nat.pow_pos (by decide)), Nat.mul_comm, ← em]
    exact hlo
  have h2 : hi * 2 ^ s + 2 ^ s ≤ y * 2 ^ s := by
    rw [← Nat.succ_mul]
    exact Nat.mul_le_mul_right _ hlt
  refine ⟨by omega, h1, by omega, ?_⟩
  have e := Nat.div_add_mod (lo * 2 ^ s) m64
  have e2 : lo * 2 ^ s / m64 = lo / 2 ^ (64 - s) := by rw [em, Nat.mul_div_mul_right _ _ hp]
  rw [e2] at e
  generalize lo * 2 ^ s % m64 = r at *
  rw [Nat.add_mul, Nat.add_mul, ← e, Nat.mul_assoc hi, Nat.mul_assoc hi, Nat.mul_comm m64 (2 ^ s), Nat.mul_comm m64 (lo / 2 ^ (64 - s)), Nat.add_assoc]
end B
end Go.Proofs.YtbcmmamipjbfpaaDoor
