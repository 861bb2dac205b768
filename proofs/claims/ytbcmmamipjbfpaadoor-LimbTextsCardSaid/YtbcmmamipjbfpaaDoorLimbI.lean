/- Rules for whole numbers of 64 bits, over Nat. No conditions. -/
import Derived.Test.YtbcmmamipjbfpaaDoorLimbH
import Derived.Laws.Bits64b
namespace Go.Proofs.YtbcmmamipjbfpaaDoor
namespace B
set_option linter.unusedVariables false
set_option maxRecDepth 4000

section
variable {P : Program} {e : Env} {w : World} {K : Value → World → Prop} {ty : TypeId} {t t' : TypeId} {x y : Operand} {a b : Nat}
theorem wrap64 (n : Nat) : IntKind.u64.wrap (n : Int) = ((n % m64 : Nat) : Int) := by
  rw [IntKind.wrap_u64]
  unfold m64
  omega
theorem OpW.mulW (hx : ev e x = .int .u64 (a : Nat)) (hy : ev e y = .int .u64 (b : Nat)) (h : K (.int .u64 ((a * b % m64 : Nat) : Int)) w) : OpW P (.binOp .mul t x y t') ty e w K :=
  OpW.mul hx hy (by rw [← Int.natCast_mul, wrap64]; exact h)
theorem OpW.addW (hx : ev e x = .int .u64 (a : Nat)) (hy : ev e y = .int .u64 (b : Nat)) (h : K (.int .u64 (((a + b) % m64 : Nat) : Int)) w) : OpW P (.binOp .add t x y t') ty e w K :=
  OpW.add hx hy (by rw [← Int.natCast_add, wrap64]; exact h)
theorem OpW.subW (hx : ev e x = .int .u64 (a : Nat)) (hy : ev e y = .int .u64 (b : Nat)) (hb : b ≤ m64) (h : K (.int .u64 (((a + m64 - b) % m64 : Nat) : Int)) w) : OpW P (.binOp .sub t x y t') ty e w K :=
  OpW.sub hx hy (by
    have : IntKind.u64.wrap ((a : Int) - (b : Int)) = (((a + m64 - b) % m64 : Nat) : Int) := by
      rw [IntKind.wrap_u64]
      unfold m64 at *
      omega
    rw [this]; exact h)
theorem OpW.mulU (hx : ev e x = .int .u64 (a : Nat)) (hy : ev e y = .int .u64 (b : Nat)) (hc : a * b < m64) (h : K (.int .u64 ((a * b : Nat) : Int)) w) : OpW P (.binOp .mul t x y t') ty e w K :=
  OpW.mulW hx hy (by rw [Nat.mod_eq_of_lt hc]; exact h)
theorem OpW.subU (hx : ev e x = .int .u64 (a : Nat)) (hy : ev e y = .int .u64 (b : Nat)) (hb : b ≤ a) (ha : a < m64) (h : K (.int .u64 ((a - b : Nat) : Int)) w) : OpW P (.binOp .sub t x y t') ty e w K :=
  OpW.subW hx hy (by omega) (by
    have : (a + m64 - b) % m64 = a - b := by unfold m64 at *; omega
    rw [this]; exact h)
theorem OpW.quoU (hx : ev e x = .int .u64 (a : Nat)) (hy : ev e y = .int .u64 (b : Nat)) (hb : 0 < b) (ha : a < m64) (h : K (.int .u64 ((a / b : Nat) : Int)) w) : OpW P (.binOp .quo t x y t') ty e w K :=
  OpW.quo ((a / b : Nat) : Int) hx hy (by omega) (by
    have h1 : (a : Int).tdiv (b : Int) = ((a / b : Nat) : Int) := by rw [Int.tdiv_eq_ediv_of_nonneg (Int.natCast_nonneg _), Int.natCast_ediv]
    have h2 : a / b ≤ a := Nat.div_le_self _ _
    rw [h1, wrap64, Nat.mod_eq_of_lt (by omega)]) h
theorem OpW.maskU (hx : ev e x = .int .u64 (a : Nat)) (hy : ev e y = .int .u64 4294967295) (ha : a < m64) (h : K (.int .u64 ((a % 4294967296 : Nat) : Int)) w) : OpW P (.binOp .and t x y t') ty e w K := by
  refine OpW.bits (op := .and) ((a % 4294967296 : Nat) : Int) hx hy ?_ (Or.inl rfl) h
  have h1 := Mul64.maskN a (by unfold m64 at ha; exact ha)
  show Sem.run P (pure (Value.int .u64 (Go.bits .and .u64 (a : Int) 4294967295))) w = _
  rw [h1]
  rfl
theorem OpW.shlU {k' : IntKind} {j : Int} (s : Nat) (hx : ev e x = .int .u64 (a : Nat)) (hy : ev e y = .int k' j) (hj : j = (s : Int)) (hs : s ≤ 64) (h : K (.int .u64 ((a * 2 ^ s % m64 : Nat) : Int)) w) : OpW P (.binOp .shl t x y t') ty e w K :=
  OpW.shl ((a * 2 ^ s % m64 : Nat) : Int) hx hy (by omega) (by
    rw [hj, Int.toNat_natCast, Nat.min_eq_left (show s ≤ IntKind.u64.bits from hs), ← wrap64]
    congr 1) h
theorem OpW.orU (s : Nat) {c : Nat} (hx : ev e x = .int .u64 ((a * 2 ^ s : Nat) : Int)) (hy : ev e y = .int .u64 (c : Nat)) (hc : c < 2 ^ s) (hl : a * 2 ^ s < m64) (hs : s ≤ 64) (h : K (.int .u64 ((a * 2 ^ s + c : Nat) : Int)) w) : OpW P (.binOp .or t x y t') ty e w K := by
  refine OpW.bits (op := .or) ((a * 2 ^ s + c : Nat) : Int) hx hy ?_ (Or.inr (Or.inl rfl)) h
  have hlt : a * 2 ^ s + c < m64 := by
    have h1 : a * 2 ^ s + 2 ^ s ≤ m64 := by
      obtain ⟨d, hd⟩ : ∃ d, m64 = d * 2 ^ s := ⟨2 ^ (64 - s), by rw [← Nat.pow_add, show 64 - s + s = 64 from by omega]; rfl⟩
      rw [hd] at hl ⊢
      have := Nat.lt_of_mul_lt_mul_right hl
      rw [← Nat.succ_mul]
      exact Nat.mul_le_mul_right _ this
    omega
  have h1 := bits_or_u64_nat (a * 2 ^ s) c hl (by unfold m64 at hlt; omega)
  show Sem.run P (pure (Value.int .u64 (Go.bits .or .u64 ((a * 2 ^ s : Nat) : Int) (c : Int)))) w = _
  rw [h1, Nat.mul_comm a, ← Nat.two_pow_add_eq_or_of_lt hc a]
  rfl
end
end B
end Go.Proofs.YtbcmmamipjbfpaaDoor
