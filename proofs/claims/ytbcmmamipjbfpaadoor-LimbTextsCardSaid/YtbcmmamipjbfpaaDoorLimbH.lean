/- Plain: 128 bits divided by 64. -/
import Derived.Test.YtbcmmamipjbfpaaDoorLimbB
namespace Go.Proofs.YtbcmmamipjbfpaaDoor
namespace B
set_option linter.unusedVariables false
set_option maxRecDepth 4000

/-- A guess of one digit of 32 bits: what a guess keeps. -/
structure Guess (u u1 y q r : Nat) : Prop where
  sum : q * (y / 4294967296) + r = u
  ge : (u * 4294967296 + u1) / y ≤ q
  le : q ≤ 4294967297
section
variable {u u1 y q r : Nat}
theorem Guess.first (hy : 9223372036854775808 ≤ y) (hy2 : y < 18446744073709551616) (hu : u < y) (h1 : u1 < 4294967296) : Guess u u1 y (u / (y / 4294967296)) (u % (y / 4294967296)) := by
  have hn : 2147483648 ≤ y / 4294967296 := by omega
  have hpos : 0 < y / 4294967296 := by omega
  have e := Nat.div_add_mod u (y / 4294967296)
  have hm := Nat.mod_lt u hpos
  have ey := Nat.div_add_mod y 4294967296
  refine ⟨by rw [Nat.mul_comm]; exact e, ?_, ?_⟩
  · have : (u * 4294967296 + u1) / y < u / (y / 4294967296) + 1 := by
      rw [Nat.div_lt_iff_lt_mul (by omega)]
      generalize u / (y / 4294967296) = q at *
      generalize u % (y / 4294967296) = r at *
      have h2 : (q + 1) * (y / 4294967296 * 4294967296) ≤ (q + 1) * y := Nat.mul_le_mul_left _ (by omega)
      have h3 : (q + 1) * (y / 4294967296 * 4294967296) = ((y / 4294967296) * q + y / 4294967296) * 4294967296 := by
        rw [← Nat.mul_assoc, Nat.add_mul, Nat.one_mul, Nat.mul_comm q]
      generalize y / 4294967296 * q = p at *
      generalize (q + 1) * y = z at *
      generalize (q + 1) * (y / 4294967296 * 4294967296) = z2 at *
      omega
    omega
  · have : u / (y / 4294967296) < 4294967298 := by
      rw [Nat.div_lt_iff_lt_mul hpos]
      omega
    omega
theorem Guess.top (h1 : u1 < 4294967296) (hu : u < y) : (u * 4294967296 + u1) / y < 4294967296 := by
  rw [Nat.div_lt_iff_lt_mul (by omega)]
  omega
/-- The guess is right. -/
theorem Guess.done (h : Guess u u1 y q r) (hy : 0 < y) (hq : q * (y % 4294967296) ≤ 4294967296 * r + u1) : q = (u * 4294967296 + u1) / y := by
  have h2 : q ≤ (u * 4294967296 + u1) / y := by
    rw [Nat.le_div_iff_mul_le hy]
    have ey := Nat.div_add_mod y 4294967296
    have e : q * y = q * (y / 4294967296) * 4294967296 + q * (y % 4294967296) := by
      rw [Nat.mul_assoc, ← Nat.mul_add, Nat.mul_comm (y / 4294967296), ey]
    have := h.sum
    generalize q * (y / 4294967296) = p at *
    rw [e]
    omega
  have := h.ge
  omega
/-- The guess is too great. -/
theorem Guess.less (h : Guess u u1 y q r) (hy : 0 < y) (hc : (u * 4294967296 + u1) / y < q) : Guess u u1 y (q - 1) (r + y / 4294967296) := by
  obtain ⟨p, rfl⟩ : ∃ p, q = p + 1 := ⟨q - 1, by have := Nat.zero_lt_of_lt hc; omega⟩
  refine ⟨?_, by omega, by have := h.le; omega⟩
  have := h.sum
  rw [Nat.add_mul, Nat.one_mul] at this
  simp only [Nat.add_sub_cancel]
  omega
theorem Guess.over (h : Guess u u1 y q r) (hy : 0 < y) (hq : 4294967296 * r + u1 < q * (y % 4294967296)) : (u * 4294967296 + u1) / y < q := by
  rw [Nat.div_lt_iff_lt_mul hy]
  have ey := Nat.div_add_mod y 4294967296
  have e : q * y = q * (y / 4294967296) * 4294967296 + q * (y % 4294967296) := by
    rw [Nat.mul_assoc, ← Nat.mul_add, Nat.mul_comm (y / 4294967296), ey]
  have := h.sum
  generalize q * (y / 4294967296) = p at *
  rw [e]
  omega
/-- Where what is left is great the guess is right. -/
theorem Guess.great (h : Guess u u1 y q r) (hy : 0 < y) (hr : 4294967296 ≤ r) (hq : q ≤ 4294967296) : q = (u * 4294967296 + u1) / y := by
  refine h.done hy ?_
  have h1 : q * (y % 4294967296) ≤ 4294967296 * 4294967296 := Nat.mul_le_mul hq (Nat.le_of_lt (Nat.mod_lt _ (by decide)))
  omega
end
/-- Two digits of 32 bits make the quotient. -/
theorem div_two' (t u0 y B : Nat) (hy : 0 < y) : t / y * B + (t % y * B + u0) / y = (t * B + u0) / y ∧ (t % y * B + u0) % y = (t * B + u0) % y := by
  have e := Nat.div_add_mod t y
  have e2 : t * B + u0 = y * (t / y * B) + (t % y * B + u0) := by
    rw [← Nat.mul_assoc, ← Nat.add_assoc, ← Nat.add_mul, e]
  rw [e2]
  exact ⟨(Nat.mul_add_div hy _ _).symm, (Nat.mul_add_mod _ _ _).symm⟩
theorem div_two (u u1 u0 y : Nat) (hy : 0 < y) (h0 : u0 < 4294967296) :
    (u * 4294967296 + u1) / y * 4294967296 + ((u * 4294967296 + u1) % y * 4294967296 + u0) / y = ((u * 4294967296 + u1) * 4294967296 + u0) / y ∧
    ((u * 4294967296 + u1) % y * 4294967296 + u0) % y = ((u * 4294967296 + u1) * 4294967296 + u0) % y := div_two' _ _ _ _ hy
end B
end Go.Proofs.YtbcmmamipjbfpaaDoor
