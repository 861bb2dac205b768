/- Contracts of the library's functions (math/bits, internal/strconv), off the shelf, laid at this program. Conditions: whole numbers of 64 bits; a table where it is named. -/
import Derived.Shelf.Lay
import Derived.Shelf.Small.Bits
import Derived.Shelf.Strconv.Itoa0
import Derived.Shelf.Strconv.Itoa1
import Derived.Shelf.LaysM
import Derived.Shelf.Strconv.Itoa2
import Derived.Shelf.Bits.Mul64
import Derived.Shelf.Spec.BitsCarry
import Derived.Test.YtbcmmamipjbfpaaDoorInstTryd
import Derived.Test.YtbcmmamipjbfpaaDoorMem5
namespace Go.Proofs
open Go.Shelf
shelf_lay Lays.n134 Nm 134 at Tryd as Tryd.lays134
shelf_lay Lays.n283 Nm 283 at Tryd as Tryd.lays283
shelf_lay LaysM.n284 Nm 284 at Tryd as Tryd.laysM284
shelf_lay Lays.n285 Nm 285 at Tryd as Tryd.lays285
shelf_lay Lays.n264 Nm 264 at Tryd as Tryd.lays264
shelf_lay Lays7.n25 Nm7 25 at Tryd as Tryd.lays25
shelf_lay Lays7.n26 Nm7 26 at Tryd as Tryd.lays26
namespace YtbcmmamipjbfpaaDoor
namespace B
attribute [local irreducible] OpW WL CW Ret Sl Blk thn blk outOf
set_option linter.unusedVariables false
set_option linter.unusedSimpArgs false
set_option maxRecDepth 4000

def m64 : Nat := 18446744073709551616
theorem Lead42 (x : Nat) (hx : x < m64) (w : World) : Ret Tryd.prog 42 #[.int .u64 x] w fun v w' => v = .int .i64 (64 - (Lib.bitLen x : Int)) ∧ w' = w := by
  unfold m64 at hx
  have := Any.bits_LeadingZeros64 Tryd.lays134 (x : Int) w (by omega) (by omega)
  unfold Ret
  exact this.mono fun e w' ⟨h1, h2⟩ => ⟨_, h1, by rw [Int.toNat_natCast], h2⟩
theorem Mul37 (x y : Nat) (hx : x < m64) (hy : y < m64) (w : World) : Ret Tryd.prog 37 #[.int .u64 x, .int .u64 y] w fun v w' => v = .tuple #[.int .u64 ((x * y / m64 : Nat) : Int), .int .u64 ((x * y % m64 : Nat) : Int)] ∧ w' = w := by
  unfold m64 at *
  unfold Ret
  exact (Any.bits_Mul64 Tryd.lays264 x y hx hy w).mono fun e w' ⟨h1, h2⟩ => ⟨_, h1, rfl, h2⟩
theorem Small45 (i : Nat) (h : i < 100) (w : World) : Ret Tryd.prog 45 #[.int .i64 i] w fun v w' => v = .string ⟨(Lib.decDigits i).toArray⟩ ∧ w' = w := by
  unfold Ret
  exact (Any.internal_strconv_small Tryd.lays283 i h w).mono fun e w' ⟨h1, h2⟩ => ⟨_, h1, rfl, h2⟩
theorem Digits46 (u : Nat) (h1 : 1 ≤ u) (h2 : u < m64) (w : World) (ht : Lib.TabIs Tryd.prog w "internal/strconv.uint64pow10" .u64 Lib.pow10Tab) : Ret Tryd.prog 46 #[.int .u64 u] w fun v w' => v = .int .i64 (Lib.nDigits u) ∧ w' = w := by
  unfold m64 at h2
  unfold Ret
  exact (Any.internal_strconv_numDigits Tryd.laysM284 u h1 h2 w ht).mono fun e w' ⟨h1, h2⟩ => ⟨_, h1, rfl, h2⟩
section
variable {P : Program} {e : Env} {w : World} {K : Value → World → Prop} {ty : TypeId}
/-- A call that the model answers at once. -/
theorem OpW.callNow {f : FuncId} {args : Array Operand} {ats : Array TypeId} {vs : List Value} {v : Value} (h : (callFunc f vs.toArray).run P w = .ok (.value v) w) (hv : args.toList.map (ev e) = vs) (hk : K v w) : OpW P (.call ⟨.value (.func f), args, ats⟩) ty e w K := by
  have hv' : args.map (ev e) = vs.toArray := by subst hv; cases args; simp
  refine OpW.of_run (v := v) (w' := w) ?_ hk
  simp [execOp, resolve, ev, Deferred.ofValue, invoke, h, hv']
end
theorem add35 (x y c : Nat) (hc : c ≤ 1) (w : World) : (callFunc 35 #[.int .u64 x, .int .u64 y, .int .u64 c]).run Tryd.prog w = .ok (.value (.tuple #[.int .u64 (((x + y + c) % m64 : Nat) : Int), .int .u64 (((x + y + c) / m64 : Nat) : Int)])) w :=
  Any7.bits_Add64 Tryd.lays25 x y c hc w
theorem sub36 (x y b : Nat) (hb : b ≤ 1) (w : World) : (callFunc 36 #[.int .u64 x, .int .u64 y, .int .u64 b]).run Tryd.prog w = .ok (.value (.tuple #[.int .u64 (((x + m64 - y - b) % m64 : Nat) : Int), .int .u64 ((if x < y + b then 1 else 0 : Nat) : Int)])) w :=
  Any7.bits_Sub64 Tryd.lays26 x y b hb w
end B
end YtbcmmamipjbfpaaDoor
end Go.Proofs
