/- Numbers in bytes: shifts, conversions; the forms of layer 2 as plain functions. No conditions. -/
import Derived.Test.YtbcmmamipjbfpaaDoorMem4
namespace Go.Proofs.YtbcmmamipjbfpaaDoor
namespace B
set_option linter.unusedVariables false

theorem fdiv_nat (n s : Nat) : (n : Int).fdiv (2 ^ s) = ((n / 2 ^ s : Nat) : Int) := by
  have h : (2 : Int) ^ s = ((2 ^ s : Nat) : Int) := by simp
  rw [h, Int.fdiv_eq_ediv_of_nonneg _ (Int.natCast_nonneg _), Int.natCast_ediv]
theorem ofNat_toNat (m : Nat) : ((UInt8.ofNat m).toNat : Int) = (m : Int) % 256 := by
  simp [UInt8.toNat_ofNat']
theorem ofNat_mod (m : Nat) : UInt8.ofNat (m % 256) = UInt8.ofNat m := by
  apply UInt8.toNat.inj
  simp [UInt8.toNat_ofNat']

section
variable {P : Program} {e : Env} {w : World} {K : Value → World → Prop} {ty : TypeId}
theorem OpW.shrN {t t' : TypeId} {x y : Operand} {k k' : IntKind} {n : Nat} {b : Int} (s : Nat) (hx : ev e x = .int k (n : Int)) (hy : ev e y = .int k' b) (hb : b = (s : Int)) (hs : s ≤ k.bits) (h : K (.int k ((n / 2 ^ s : Nat) : Int)) w) : OpW P (.binOp .shr t x y t') ty e w K :=
  OpW.shr ((n / 2 ^ s : Nat) : Int) hx hy (by omega) (by rw [hb, Int.toNat_natCast, Nat.min_eq_left hs]; exact fdiv_nat n s) h
theorem OpW.convByte {s d : TypeId} {k' : IntKind} {x : Operand} {m : Nat} [hs : IntT P s k'] [hd : IntT P d .u8] (hx : ev e x = .int k' (m : Int)) (h : K (.int .u8 ((UInt8.ofNat m).toNat : Int)) w) : OpW P (.convert s d x) ty e w K :=
  OpW.conv (k := .u8) _ hx (by rw [wrap_u8, ofNat_toNat]) h
theorem OpW.convU64 {s d : TypeId} {k' : IntKind} {x : Operand} {a : Int} [hs : IntT P s k'] [hd : IntT P d .u64] (hx : ev e x = .int k' a) (hb : 0 ≤ a ∧ a ≤ 18446744073709551615) (h : K (.int .u64 a) w) : OpW P (.convert s d x) ty e w K :=
  OpW.conv (k := .u64) _ hx (wrap_u64 hb.1 hb.2) h
theorem OpW.convI64 {s d : TypeId} {k' : IntKind} {x : Operand} {a : Int} [hs : IntT P s k'] [hd : IntT P d .i64] (hx : ev e x = .int k' a) (hb : -9223372036854775808 ≤ a ∧ a ≤ 9223372036854775807) (h : K (.int .i64 a) w) : OpW P (.convert s d x) ty e w K :=
  OpW.conv (k := .i64) _ hx (wrap_i64 hb.1 hb.2) h
theorem OpW.mulI {t t' : TypeId} {x y : Operand} {a b : Int} (c : Int) (hx : ev e x = .int .i64 a) (hy : ev e y = .int .i64 b) (hc : a * b = c ∧ -9223372036854775808 ≤ c ∧ c ≤ 9223372036854775807) (h : K (.int .i64 c) w) : OpW P (.binOp .mul t x y t') ty e w K :=
  OpW.mul hx hy (by rw [hc.1, wrap_i64 hc.2.1 hc.2.2]; exact h)
theorem OpW.quoN {t t' : TypeId} {x y : Operand} {k k' : IntKind} {n m : Nat} {b : Int} (hx : ev e x = .int .i64 (n : Int)) (hy : ev e y = .int .i64 b) (hb : b = (m : Int)) (hm : 0 < m) (hn : (n : Int) ≤ 9223372036854775807) (h : K (.int .i64 ((n / m : Nat) : Int)) w) : OpW P (.binOp .quo t x y t') ty e w K :=
  OpW.quo ((n / m : Nat) : Int) hx hy (by omega) (by
    have : (n : Int).tdiv (m : Int) = ((n / m : Nat) : Int) := by rw [Int.tdiv_eq_ediv_of_nonneg (Int.natCast_nonneg _), Int.natCast_ediv]
    rw [hb, this, wrap_i64 (by have := Int.natCast_nonneg (n / m); omega) (by have : n / m ≤ n := Nat.div_le_self _ _; omega)]) h
theorem OpW.remN {t t' : TypeId} {x y : Operand} {k : IntKind} {n m : Nat} {b : Int} (hx : ev e x = .int k (n : Int)) (hy : ev e y = .int k b) (hb : b = (m : Int)) (hm : 0 < m) (h : K (.int k ((n % m : Nat) : Int)) w) : OpW P (.binOp .rem t x y t') ty e w K :=
  OpW.rem ((n % m : Nat) : Int) hx hy (by omega) (by
    rw [hb, Int.tmod_eq_emod_of_nonneg (Int.natCast_nonneg _), Int.natCast_emod]) h
end

/-! ### The forms -/
def beN (n : Nat) : List UInt8 := [UInt8.ofNat (n / 2 ^ 56), UInt8.ofNat (n / 2 ^ 48), UInt8.ofNat (n / 2 ^ 40), UInt8.ofNat (n / 2 ^ 32), UInt8.ofNat (n / 2 ^ 24), UInt8.ofNat (n / 2 ^ 16), UInt8.ofNat (n / 2 ^ 8), UInt8.ofNat n]
def fld (x : List UInt8) : List UInt8 := x.take 65535
def be4 (n : Nat) : List UInt8 := [0, 0, UInt8.ofNat (n / 2 ^ 8), UInt8.ofNat n]
def putN (b : List UInt8) (n : Nat) : List UInt8 := b ++ beN n
def putB (b x : List UInt8) : List UInt8 := b ++ (be4 (fld x).length ++ fld x)
def putF (b : List UInt8) (y : Bool) : List UInt8 := b ++ [if y then 1 else 0]
theorem fld_length (x : List UInt8) : (fld x).length = min 65535 x.length := by simp [fld]
theorem beN_length (n : Nat) : (beN n).length = 8 := rfl
theorem be4_length (n : Nat) : (be4 n).length = 4 := rfl
theorem putN_length (b : List UInt8) (n : Nat) : (putN b n).length = b.length + 8 := by simp [putN, beN_length]
theorem putB_length (b x : List UInt8) : (putB b x).length = b.length + (4 + min 65535 x.length) := by simp [putB, be4_length, fld_length]
theorem putF_length (b : List UInt8) (y : Bool) : (putF b y).length = b.length + 1 := by simp [putF]

/-- The number that bytes are, the highest first. -/
def numOf (l : List UInt8) : Nat := l.foldl (fun x c => 256 * x + c.toNat) 0
theorem numOf_snoc (l : List UInt8) (c : UInt8) : numOf (l ++ [c]) = 256 * numOf l + c.toNat := by simp [numOf, List.foldl_append]
theorem numOf_lt (l : List UInt8) : numOf l < 256 ^ l.length := by
  suffices h : ∀ (l : List UInt8) (x : Nat), l.foldl (fun x c => 256 * x + c.toNat) x < 256 ^ l.length * (x + 1) by
    have := h l 0
    simpa [numOf] using this
  intro l
  induction l with
  | nil => intro x; simp
  | cons c l ih =>
    intro x
    have := ih (256 * x + c.toNat)
    have hc := c.toNat_lt
    simp only [List.foldl_cons, List.length_cons]
    refine Nat.lt_of_lt_of_le this ?_
    rw [Nat.pow_succ, Nat.mul_assoc]
    exact Nat.mul_le_mul_left _ (by omega)

theorem shl_or {P : Program} {w : World} (x : Nat) (c : UInt8) (hx : x < 2 ^ 56) : (Op.intBits .or .u64 ((256 * x : Nat) : Int) (c.toNat : Int)).run P w = .ok (.int .u64 ((256 * x + c.toNat : Nat) : Int)) w := by
  have hc := c.toNat_lt
  have e1 : BitVec.ofInt 64 ((256 * x : Nat) : Int) = BitVec.ofNat 64 (256 * x) := BitVec.ofInt_natCast 64 _
  have e2 : BitVec.ofInt 64 (c.toNat : Int) = BitVec.ofNat 64 c.toNat := BitVec.ofInt_natCast 64 _
  have h3 : (BitVec.ofNat 64 (256 * x) ||| BitVec.ofNat 64 c.toNat).toNat = 256 * x + c.toNat := by
    rw [BitVec.toNat_or, BitVec.toNat_ofNat, BitVec.toNat_ofNat, Nat.mod_eq_of_lt (by omega), Nat.mod_eq_of_lt (by omega)]
    have := Nat.two_pow_add_eq_or_of_lt (i := 8) (b := c.toNat) (by simpa using hc) x
    rw [show (256 : Nat) = 2 ^ 8 by rfl, ← this]
  show Sem.run P (pure (Value.int .u64 (IntKind.u64.wrap ((BitVec.ofInt 64 ((256 * x : Nat) : Int) ||| BitVec.ofInt 64 (c.toNat : Int)).toNat : Int)))) w = _
  rw [e1, e2, h3, wrap_u64 (by omega) (by omega)]
  rfl
section
variable {P : Program} {e : Env} {w : World} {K : Value → World → Prop} {ty : TypeId}
/-- x<<8 of 64 bits. -/
theorem OpW.shl8 {t t' : TypeId} {a b : Operand} {k' : IntKind} {x : Nat} (hx : ev e a = .int .u64 (x : Int)) (hy : ev e b = .int k' 8) (hl : x < 2 ^ 56) (h : K (.int .u64 ((256 * x : Nat) : Int)) w) : OpW P (.binOp .shl t a b t') ty e w K :=
  OpW.shl ((256 * x : Nat) : Int) hx hy (by decide) (by
    show IntKind.u64.wrap ((x : Int) * 2 ^ 8) = _
    rw [wrap_u64 (by omega) (by omega)]
    omega) h
theorem OpW.orByte {t t' : TypeId} {a b : Operand} {x : Nat} {c : UInt8} (hx : ev e a = .int .u64 ((256 * x : Nat) : Int)) (hy : ev e b = .int .u64 (c.toNat : Int)) (hl : x < 2 ^ 56) (h : K (.int .u64 ((256 * x + c.toNat : Nat) : Int)) w) : OpW P (.binOp .or t a b t') ty e w K :=
  OpW.bits (op := .or) _ hx hy (shl_or x c hl) (Or.inr (Or.inl rfl)) h
/-- Sums of 64 bits that fit. -/
theorem OpW.addU {t t' : TypeId} {x y : Operand} {a b : Int} (c : Int) (hx : ev e x = .int .u64 a) (hy : ev e y = .int .u64 b) (hc : a + b = c ∧ 0 ≤ c ∧ c ≤ 18446744073709551615) (h : K (.int .u64 c) w) : OpW P (.binOp .add t x y t') ty e w K :=
  OpW.add hx hy (by rw [hc.1, wrap_u64 hc.2.1 hc.2.2]; exact h)
end

/-! ### A reader, as the document has it: the bytes that are left, the fault -/
abbrev RS := List UInt8 × Int
/-- What n bytes at a place are; whether they are there; the fault. -/
def rNum (s : RS) (at' n : Nat) : Nat × Bool × RS :=
  if s.2 ≠ 0 then (0, false, s) else if s.1.length < at' + n then (0, false, (s.1, 20)) else (numOf ((s.1.drop at').take n), true, s)
def rN (s : RS) : Nat × RS :=
  let r := rNum s 0 8
  if r.2.1 then (r.1, (s.1.drop 8, s.2)) else (0, r.2.2)
def rCount (s : RS) (most : Int) : Int × RS :=
  let r := rNum s 0 8
  if r.2.1 then (if most < 0 ∨ most < (r.1 : Int) then (0, (s.1, 22)) else ((r.1 : Int), (s.1.drop 8, s.2))) else (0, r.2.2)
def rB (s : RS) : List UInt8 × RS :=
  let r := rNum s 0 4
  if r.2.1 then
    (if 65535 < r.1 then ([], (s.1, 22)) else
      let q := rNum s (4 + r.1) 0
      if q.2.1 then ((s.1.drop 4).take r.1, (s.1.drop (4 + r.1), s.2)) else ([], q.2.2))
  else ([], r.2.2)
def rF (s : RS) : Bool × RS :=
  let r := rNum s 0 1
  if r.2.1 then (if 1 < r.1 then (false, (s.1, 21)) else (decide (r.1 = 1), (s.1.drop 1, s.2))) else (false, r.2.2)
def rEnd (s : RS) : Int := if s.2 ≠ 0 then s.2 else if s.1 = [] then 0 else 23
end B
end Go.Proofs.YtbcmmamipjbfpaaDoor
