/- Contracts of the library's functions (math/bits, internal/strconv), off the shelf, laid at this program in plain words (by the kit's lay-plain.mjs). Conditions: whole numbers of 64 bits; a table where it is named. -/
import Derived.Shelf.Small.Bits
import Derived.Shelf.Strconv.Itoa0
import Derived.Shelf.Strconv.Itoa1
import Derived.Shelf.LaysM
import Derived.Shelf.Strconv.Itoa2
import Derived.Shelf.Bits.Mul64
import Derived.Shelf.Spec.BitsCarry
import Derived.Test.YtbcmmamipjbfpaaDoorInstTryd
import Derived.Test.YtbcmmamipjbfpaaDoorMem5
namespace Go.Proofs
open Go.Shelf
def Tryd.lays134_ren : Go.Shelf.Ren := ⟨fun | 134 => 42 | 129 => 44 | n => n, fun | 53 => 22 | 3 => 3 | 4 => 4 | 46 => 49 | 5 => 5 | 9 => 9 | n => n, fun | n => n⟩
theorem Tryd.lays134 : Go.Proofs.Lays.n134 Tryd.prog Tryd.lays134_ren := {
  mixed := by kernel_rfl
  f129 := Tryd.func44.trans (congrArg some (by kernel_rfl))
  f134 := Tryd.func42.trans (congrArg some (by kernel_rfl))
  t3 := Tryd.underlying3
  a3 := Tryd.isAgg3
  z3 := Tryd.sizeOf3
  v3 := Tryd.zeroValue3
  t4 := Tryd.underlying4
  a4 := Tryd.isAgg4
  z4 := Tryd.sizeOf4
  v4 := Tryd.zeroValue4
  t5 := Tryd.underlying5
  a5 := Tryd.isAgg5
  z5 := Tryd.sizeOf5
  v5 := Tryd.zeroValue5
  t9 := Tryd.underlying9
  a9 := Tryd.isAgg9
  z9 := Tryd.sizeOf9
  v9 := Tryd.zeroValue9
  t46 := Tryd.underlying49
  a46 := Tryd.isAgg49
  z46 := Tryd.sizeOf49
  v46 := Tryd.zeroValue49
  t53 := Tryd.underlying22
  a53 := Tryd.isAgg22
  z53 := Tryd.sizeOf22
  v53 := Tryd.zeroValue22 }
def Tryd.lays283_ren : Go.Shelf.Ren := ⟨fun | 283 => 45 | n => n, fun | 3 => 3 | 9 => 9 | 4 => 4 | n => n, fun | n => n⟩
theorem Tryd.lays283 : Go.Proofs.Lays.n283 Tryd.prog Tryd.lays283_ren := {
  mixed := by kernel_rfl
  f283 := Tryd.func45.trans (congrArg some (by kernel_rfl))
  t3 := Tryd.underlying3
  a3 := Tryd.isAgg3
  z3 := Tryd.sizeOf3
  v3 := Tryd.zeroValue3
  t4 := Tryd.underlying4
  a4 := Tryd.isAgg4
  z4 := Tryd.sizeOf4
  v4 := Tryd.zeroValue4
  t9 := Tryd.underlying9
  a9 := Tryd.isAgg9
  z9 := Tryd.sizeOf9
  v9 := Tryd.zeroValue9 }
def Tryd.laysM284_ren : Go.Shelf.Ren := ⟨fun | 284 => 46 | 129 => 44 | 317 => 49 | 318 => 50 | n => n, fun | 53 => 22 | 3 => 3 | 212 => 67 | 0 => 0 | 4 => 4 | 46 => 49 | 5 => 5 | 9 => 9 | n => n, fun | 17 => 2 | n => n⟩
theorem Tryd.laysM284 : Go.Proofs.LaysM.n284 Tryd.prog Tryd.laysM284_ren := {
  mixed := by kernel_rfl
  f129 := Tryd.func44.trans (congrArg some (by kernel_rfl))
  f284 := Tryd.func46.trans (congrArg some (by kernel_rfl))
  f317 := Tryd.func49.trans (congrArg some (by kernel_rfl))
  f318 := Tryd.func50.trans (congrArg some (by kernel_rfl))
  t0 := Tryd.underlying0
  a0 := Tryd.isAgg0
  z0 := Tryd.sizeOf0
  v0 := Tryd.zeroValue0
  t3 := Tryd.underlying3
  a3 := Tryd.isAgg3
  z3 := Tryd.sizeOf3
  v3 := Tryd.zeroValue3
  t4 := Tryd.underlying4
  a4 := Tryd.isAgg4
  z4 := Tryd.sizeOf4
  v4 := Tryd.zeroValue4
  t5 := Tryd.underlying5
  a5 := Tryd.isAgg5
  z5 := Tryd.sizeOf5
  v5 := Tryd.zeroValue5
  t9 := Tryd.underlying9
  a9 := Tryd.isAgg9
  z9 := Tryd.sizeOf9
  v9 := Tryd.zeroValue9
  t46 := Tryd.underlying49
  a46 := Tryd.isAgg49
  z46 := Tryd.sizeOf49
  v46 := Tryd.zeroValue49
  t53 := Tryd.underlying22
  a53 := Tryd.isAgg22
  z53 := Tryd.sizeOf22
  v53 := Tryd.zeroValue22
  t212 := Tryd.underlying67
  a212 := Tryd.isAgg67
  z212 := Tryd.sizeOf67
  v212 := Tryd.zeroValue67
  g17 := by kernel_rfl
  i0 := by kernel_rfl
  i3 := by kernel_rfl
  i4 := by kernel_rfl
  i5 := by kernel_rfl
  i9 := by kernel_rfl
  i46 := by kernel_rfl
  i53 := by kernel_rfl
  i212 := by kernel_rfl
  m17 := by kernel_rfl }
def Tryd.lays285_ren : Go.Shelf.Ren := ⟨fun | 285 => 47 | n => n, fun | 37 => 26 | 53 => 22 | 3 => 3 | 4 => 4 | 51 => 68 | 9 => 9 | 5 => 5 | 0 => 0 | n => n, fun | n => n⟩
theorem Tryd.lays285 : Go.Proofs.Lays.n285 Tryd.prog Tryd.lays285_ren := {
  mixed := by kernel_rfl
  f285 := Tryd.func47.trans (congrArg some (by kernel_rfl))
  t0 := Tryd.underlying0
  a0 := Tryd.isAgg0
  z0 := Tryd.sizeOf0
  v0 := Tryd.zeroValue0
  t3 := Tryd.underlying3
  a3 := Tryd.isAgg3
  z3 := Tryd.sizeOf3
  v3 := Tryd.zeroValue3
  t4 := Tryd.underlying4
  a4 := Tryd.isAgg4
  z4 := Tryd.sizeOf4
  v4 := Tryd.zeroValue4
  t5 := Tryd.underlying5
  a5 := Tryd.isAgg5
  z5 := Tryd.sizeOf5
  v5 := Tryd.zeroValue5
  t9 := Tryd.underlying9
  a9 := Tryd.isAgg9
  z9 := Tryd.sizeOf9
  v9 := Tryd.zeroValue9
  t37 := Tryd.underlying26
  a37 := Tryd.isAgg26
  z37 := Tryd.sizeOf26
  v37 := Tryd.zeroValue26
  t51 := Tryd.underlying68
  a51 := Tryd.isAgg68
  z51 := Tryd.sizeOf68
  v51 := Tryd.zeroValue68
  t53 := Tryd.underlying22
  a53 := Tryd.isAgg22
  z53 := Tryd.sizeOf22
  v53 := Tryd.zeroValue22 }
def Tryd.lays264_ren : Go.Shelf.Ren := ⟨fun | 264 => 37 | n => n, fun | 53 => 22 | 46 => 49 | n => n, fun | n => n⟩
theorem Tryd.lays264 : Go.Proofs.Lays.n264 Tryd.prog Tryd.lays264_ren := {
  mixed := by kernel_rfl
  f264 := Tryd.func37.trans (congrArg some (by kernel_rfl))
  t46 := Tryd.underlying49
  a46 := Tryd.isAgg49
  z46 := Tryd.sizeOf49
  v46 := Tryd.zeroValue49
  t53 := Tryd.underlying22
  a53 := Tryd.isAgg22
  z53 := Tryd.sizeOf22
  v53 := Tryd.zeroValue22 }
def Tryd.lays25_ren : Go.Shelf.Ren := ⟨fun | 25 => 35 | n => n, fun | 22 => 22 | n => n, fun | n => n⟩
theorem Tryd.lays25 : Go.Proofs.Lays7.n25 Tryd.prog Tryd.lays25_ren := {
  mixed := by kernel_rfl
  f25 := Tryd.func35.trans (congrArg some (by kernel_rfl))
  t22 := Tryd.underlying22
  a22 := Tryd.isAgg22
  z22 := Tryd.sizeOf22
  v22 := Tryd.zeroValue22
  i22 := by kernel_rfl }
def Tryd.lays26_ren : Go.Shelf.Ren := ⟨fun | 26 => 36 | n => n, fun | 22 => 22 | n => n, fun | n => n⟩
theorem Tryd.lays26 : Go.Proofs.Lays7.n26 Tryd.prog Tryd.lays26_ren := {
  mixed := by kernel_rfl
  f26 := Tryd.func36.trans (congrArg some (by kernel_rfl))
  t22 := Tryd.underlying22
  a22 := Tryd.isAgg22
  z22 := Tryd.sizeOf22
  v22 := Tryd.zeroValue22
  i22 := by kernel_rfl }
namespace YtbcmmamipjbfpaaDoor
namespace B
attribute [local irreducible] OpW WL CW Ret Sl Blk thn blk outOf
set_option linter.unusedVariables false
set_option linter.unusedSimpArgs false
set_option maxRecDepth 4000

def m64 : Nat := 18446744073709551616
theorem Lead42 (x : Nat) (hx : x < m64) (w : World) : Ret Tryd.prog 42 #[.int .u64 x] w fun v w' => v = .int .i64 (64 - (Lib.bitLen x : Int)) ∧ w' = w := by
  unfold m64 at hx
  have := Any.bits_LeadingZeros64 Tryd.lays134 (x : Int) w (by omega) (by omega)
  unfold Ret
  exact this.mono fun e w' ⟨h1, h2⟩ => ⟨_, h1, by rw [Int.toNat_natCast], h2⟩
theorem Mul37 (x y : Nat) (hx : x < m64) (hy : y < m64) (w : World) : Ret Tryd.prog 37 #[.int .u64 x, .int .u64 y] w fun v w' => v = .tuple #[.int .u64 ((x * y / m64 : Nat) : Int), .int .u64 ((x * y % m64 : Nat) : Int)] ∧ w' = w := by
  unfold m64 at *
  unfold Ret
  exact (Any.bits_Mul64 Tryd.lays264 x y hx hy w).mono fun e w' ⟨h1, h2⟩ => ⟨_, h1, rfl, h2⟩
theorem Small45 (i : Nat) (h : i < 100) (w : World) : Ret Tryd.prog 45 #[.int .i64 i] w fun v w' => v = .string ⟨(Lib.decDigits i).toArray⟩ ∧ w' = w := by
  unfold Ret
  exact (Any.internal_strconv_small Tryd.lays283 i h w).mono fun e w' ⟨h1, h2⟩ => ⟨_, h1, rfl, h2⟩
theorem Digits46 (u : Nat) (h1 : 1 ≤ u) (h2 : u < m64) (w : World) (ht : Lib.TabIs Tryd.prog w "internal/strconv.uint64pow10" .u64 Lib.pow10Tab) : Ret Tryd.prog 46 #[.int .u64 u] w fun v w' => v = .int .i64 (Lib.nDigits u) ∧ w' = w := by
  unfold m64 at h2
  unfold Ret
  exact (Any.internal_strconv_numDigits Tryd.laysM284 u h1 h2 w ht).mono fun e w' ⟨h1, h2⟩ => ⟨_, h1, rfl, h2⟩
section
variable {P : Program} {e : Env} {w : World} {K : Value → World → Prop} {ty : TypeId}
/-- A call that the model answers at once. -/
theorem OpW.callNow {f : FuncId} {args : Array Operand} {ats : Array TypeId} {vs : List Value} {v : Value} (h : (callFunc f vs.toArray).run P w = .ok (.value v) w) (hv : args.toList.map (ev e) = vs) (hk : K v w) : OpW P (.call ⟨.value (.func f), args, ats⟩) ty e w K := by
  have hv' : args.map (ev e) = vs.toArray := by subst hv; cases args; simp
  refine OpW.of_run (v := v) (w' := w) ?_ hk
  simp [execOp, resolve, ev, Deferred.ofValue, invoke, h, hv']
end
theorem add35 (x y c : Nat) (hc : c ≤ 1) (w : World) : (callFunc 35 #[.int .u64 x, .int .u64 y, .int .u64 c]).run Tryd.prog w = .ok (.value (.tuple #[.int .u64 (((x + y + c) % m64 : Nat) : Int), .int .u64 (((x + y + c) / m64 : Nat) : Int)])) w :=
  Any7.bits_Add64 Tryd.lays25 x y c hc w
theorem sub36 (x y b : Nat) (hb : b ≤ 1) (w : World) : (callFunc 36 #[.int .u64 x, .int .u64 y, .int .u64 b]).run Tryd.prog w = .ok (.value (.tuple #[.int .u64 (((x + m64 - y - b) % m64 : Nat) : Int), .int .u64 ((if x < y + b then 1 else 0 : Nat) : Int)])) w :=
  Any7.bits_Sub64 Tryd.lays26 x y b hb w
end B
end YtbcmmamipjbfpaaDoor
end Go.Proofs
