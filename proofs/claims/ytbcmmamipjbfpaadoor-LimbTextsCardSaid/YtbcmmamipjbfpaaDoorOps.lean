/- Rules of the walk for the operations that touch no memory. No conditions. -/
import Derived.Test.YtbcmmamipjbfpaaDoorBase
import Derived.Laws.BitsLemmas
namespace Go.Proofs.YtbcmmamipjbfpaaDoor
namespace B
set_option linter.unusedVariables false
set_option linter.unusedSimpArgs false

/-! ### What is asked of the types -/
class Plain (P : Program) (t : TypeId) : Prop where
  h : ∀ w, (isAgg t).run P w = .ok false w
class AggT (P : Program) (t : TypeId) (n : outParam Nat) : Prop where
  h : ∀ w, (isAgg t).run P w = .ok true w
  s : ∀ w, (sizeOf t).run P w = .ok n w
class SizeT (P : Program) (t : TypeId) (n : outParam Nat) : Prop where
  h : ∀ w, (sizeOf t).run P w = .ok n w
class SliceT (P : Program) (t : TypeId) (el : outParam TypeId) : Prop where
  h : ∀ w, (underlying t).run P w = .ok (.slice el) w
class IntT (P : Program) (t : TypeId) (k : outParam IntKind) : Prop where
  h : ∀ w, (underlying t).run P w = .ok (.int k) w
class StrT (P : Program) (t : TypeId) : Prop where
  h : ∀ w, (underlying t).run P w = .ok .string w
class BoolT (P : Program) (t : TypeId) : Prop where
  h : ∀ w, (underlying t).run P w = .ok .bool w
class PtrT (P : Program) (t : TypeId) (el : outParam TypeId) : Prop where
  h : ∀ w, (underlying t).run P w = .ok (.pointer el) w
class ZeroT (P : Program) (t : TypeId) (v : outParam Value) : Prop where
  h : ∀ w, (zeroValue t).run P w = .ok v w
class BytesT (P : Program) (t : TypeId) (n : outParam Nat) : Prop where
  h : ∀ w, ∃ i : TypeInfo, (typeInfo t).run P w = .ok i w ∧ i.bytes = n
class FieldT (P : Program) (s : TypeId) (i : Nat) (off : outParam Nat) : Prop where
  h : ∃ fs f sz, (∀ w, (underlying s).run P w = .ok (.struct fs) w) ∧ fs[i]? = some f ∧ f.offset = off ∧ (∀ w, (sizeOf f.type).run P w = .ok sz w) ∧ sz ≠ 0
class CallT (P : Program) (f : FuncId) : Prop where
  h : ∀ args w, (callFunc f args).run P w = .ok (.enter f args) w

section
variable {P : Program} {e : Env} {w : World} {K : Value → World → Prop} {ty : TypeId}

theorem OpW.of_run {op : Op} {v : Value} {w' : World} (hr : (execOp (ev e) ⟨none, op, ty, "", #[], none⟩).run P w = .ok (.value v) w') (h : K v w') : OpW P op ty e w K := by
  unfold OpW; rw [hr]; exact h
theorem OpW.of_skip {op : Op} {w' : World} (hr : (execOp (ev e) ⟨none, op, ty, "", #[], none⟩).run P w = .ok .skip w') (h : K undef w') : OpW P op ty e w K := by
  unfold OpW; rw [hr]; exact h

/-- An operation that is one 'Sem Value'. -/
theorem OpW.of_sem {op : Op} {s : Sem Value} {v : Value} {w' : World} (he : execOp (ev e) ⟨none, op, ty, "", #[], none⟩ = (do pure (.value (← s)))) (hr : s.run P w = .ok v w') (h : K v w') : OpW P op ty e w K :=
  OpW.of_run (by rw [he]; simp [Sem.run_bind, hr, Result.andThen]) h
theorem OpW.of_unit {op : Op} {s : Sem Unit} {w' : World} (he : execOp (ev e) ⟨none, op, ty, "", #[], none⟩ = (do s; pure .skip)) (hr : s.run P w = .ok () w') (h : K undef w') : OpW P op ty e w K :=
  OpW.of_skip (by rw [he]; simp [Sem.run_bind, hr, Result.andThen]) h

theorem OpW.move {x : Operand} {v : Value} (hv : ev e x = v) (h : K v w) : OpW P (.move x) ty e w K := OpW.of_run (by simp [execOp, hv]) h
theorem OpW.assign {x : Operand} {v : Value} (hv : ev e x = v) (h : K v w) : OpW P (.assign x) ty e w K := OpW.of_run (by simp [execOp, hv]) h
theorem OpW.nilCheck {x : Operand} {A : Addr} (hv : ev e x = .pointer (some A)) (h : K (.pointer (some A)) w) : OpW P (.nilCheck x) ty e w K := OpW.of_run (by simp [execOp, hv]) h
theorem OpW.pick {c x y : Operand} {b : Bool} (hc : ev e c = .bool b) (h : K (if b then ev e x else ev e y) w) : OpW P (.pick c x y) ty e w K :=
  OpW.of_run (v := if b then ev e x else ev e y) (by simp [execOp, hc, asBool]) h
theorem OpW.pickT {c x y : Operand} {v : Value} (hc : ev e c = .bool true) (hx : ev e x = v) (h : K v w) : OpW P (.pick c x y) ty e w K := OpW.pick hc (by rw [if_pos rfl, hx]; exact h)
theorem OpW.pickF {c x y : Operand} {v : Value} (hc : ev e c = .bool false) (hy : ev e y = v) (h : K v w) : OpW P (.pick c x y) ty e w K := OpW.pick hc (by rw [if_neg Bool.false_ne_true, hy]; exact h)
/-- 'a || b', 'a && b' as values. -/
theorem OpW.pickOr {c x y : Operand} {b b' : Bool} (hc : ev e c = .bool b) (hx : ev e x = .bool true) (hy : b = false → ev e y = .bool b') (h : K (.bool (b || b')) w) : OpW P (.pick c x y) ty e w K :=
  OpW.pick hc (by cases b with | true => rw [if_pos rfl, hx]; exact h | false => rw [if_neg Bool.false_ne_true, hy rfl]; exact h)
theorem OpW.pickAnd {c x y : Operand} {b b' : Bool} (hc : ev e c = .bool b) (hx : b = true → ev e x = .bool b') (hy : ev e y = .bool false) (h : K (.bool (b && b')) w) : OpW P (.pick c x y) ty e w K :=
  OpW.pick hc (by cases b with | true => rw [if_pos rfl, hx rfl]; exact h | false => rw [if_neg Bool.false_ne_true, hy]; exact h)
theorem OpW.extract {x : Operand} {vs : Array Value} {i : Nat} {v : Value} (hv : ev e x = .tuple vs) (hi : vs[i]? = some v) (h : K v w) : OpW P (.extract x i) ty e w K :=
  OpW.of_sem (s := Instr.extract (ev e x) i) rfl (by rw [hv]; simp [Instr.extract, hi]) h
theorem OpW.not {t : TypeId} {x : Operand} {b : Bool} (hv : ev e x = .bool b) (h : K (.bool (!b)) w) : OpW P (.unOp .not t x) ty e w K :=
  OpW.of_sem (s := Op.unary .not (ev e x)) rfl (by rw [hv]; simp [Op.unary]) h
theorem OpW.notP {t : TypeId} {x : Operand} {p : Prop} [Decidable p] (hv : ev e x = .bool (decide p)) (h : K (.bool (decide (¬ p))) w) : OpW P (.unOp .not t x) ty e w K :=
  OpW.not hv (by rw [← decide_not]; exact h)

/-! ### Numbers -/
theorem OpW.bin {op : BinOp} {t t' : TypeId} {x y : Operand} {a b v : Value} {w' : World} (hx : ev e x = a) (hy : ev e y = b) (hr : (do eqGuard op t x y a b; binOp op t a b).run P w = .ok v w') (h : K v w') : OpW P (.binOp op t x y t') ty e w K :=
  OpW.of_sem (s := do eqGuard op t x y (ev e x) (ev e y); binOp op t (ev e x) (ev e y)) rfl (by rw [hx, hy]; exact hr) h

theorem guard_int {op : BinOp} {t : TypeId} {x y : Operand} {k k' : IntKind} {a b : Int} : (eqGuard op t x y (.int k a) (.int k' b)).run P w = .ok () w := by
  unfold eqGuard; cases op <;> simp <;> rfl

theorem OpW.binInt {op : BinOp} {t t' : TypeId} {x y : Operand} {k k' : IntKind} {a b : Int} {v : Value} (hx : ev e x = .int k a) (hy : ev e y = .int k' b) (hr : (binOp op t (.int k a) (.int k' b)).run P w = .ok v w) (h : K v w) : OpW P (.binOp op t x y t') ty e w K :=
  OpW.bin hx hy (by rw [Sem.run_bind, guard_int]; exact hr) h

theorem OpW.add {t t' : TypeId} {x y : Operand} {k : IntKind} {a b : Int} (hx : ev e x = .int k a) (hy : ev e y = .int k b) (h : K (.int k (k.wrap (a + b))) w) : OpW P (.binOp .add t x y t') ty e w K :=
  OpW.binInt hx hy (by simp [binOp, Op.intArith]) h
theorem OpW.sub {t t' : TypeId} {x y : Operand} {k : IntKind} {a b : Int} (hx : ev e x = .int k a) (hy : ev e y = .int k b) (h : K (.int k (k.wrap (a - b))) w) : OpW P (.binOp .sub t x y t') ty e w K :=
  OpW.binInt hx hy (by simp [binOp, Op.intArith]) h
theorem OpW.mul {t t' : TypeId} {x y : Operand} {k : IntKind} {a b : Int} (hx : ev e x = .int k a) (hy : ev e y = .int k b) (h : K (.int k (k.wrap (a * b))) w) : OpW P (.binOp .mul t x y t') ty e w K :=
  OpW.binInt hx hy (by simp [binOp, Op.intArith]) h

def In64 (a : Int) : Prop := -9223372036854775808 ≤ a ∧ a ≤ 9223372036854775807
theorem wrap_i64 {a : Int} (h1 : -9223372036854775808 ≤ a) (h2 : a ≤ 9223372036854775807) : IntKind.i64.wrap a = a := by
  simp only [IntKind.wrap, IntKind.signed, IntKind.bits]
  simp
  omega
theorem wrap_u64 {a : Int} (h1 : 0 ≤ a) (h2 : a ≤ 18446744073709551615) : IntKind.u64.wrap a = a := by
  simp only [IntKind.wrap, IntKind.signed, IntKind.bits]
  simp
  omega
theorem wrap_u8 {a : Int} : IntKind.u8.wrap a = a % 256 := by
  simp [IntKind.wrap, IntKind.signed, IntKind.bits]

/-- The sum that stays an int: its form is the caller's ('c'). -/
theorem OpW.addI {t t' : TypeId} {x y : Operand} {a b : Int} (c : Int) (hx : ev e x = .int .i64 a) (hy : ev e y = .int .i64 b) (hc : a + b = c ∧ -9223372036854775808 ≤ c ∧ c ≤ 9223372036854775807) (h : K (.int .i64 c) w) : OpW P (.binOp .add t x y t') ty e w K :=
  OpW.add hx hy (by rw [hc.1, wrap_i64 hc.2.1 hc.2.2]; exact h)
theorem OpW.subI {t t' : TypeId} {x y : Operand} {a b : Int} (c : Int) (hx : ev e x = .int .i64 a) (hy : ev e y = .int .i64 b) (hc : a - b = c ∧ -9223372036854775808 ≤ c ∧ c ≤ 9223372036854775807) (h : K (.int .i64 c) w) : OpW P (.binOp .sub t x y t') ty e w K :=
  OpW.sub hx hy (by rw [hc.1, wrap_i64 hc.2.1 hc.2.2]; exact h)

theorem OpW.lss {t t' : TypeId} {x y : Operand} {k : IntKind} {a b : Int} (hx : ev e x = .int k a) (hy : ev e y = .int k b) (h : K (.bool (decide (a < b))) w) : OpW P (.binOp .lss t x y t') ty e w K :=
  OpW.binInt hx hy (by simp [binOp, Op.intCmp]) h
theorem OpW.leq {t t' : TypeId} {x y : Operand} {k : IntKind} {a b : Int} (hx : ev e x = .int k a) (hy : ev e y = .int k b) (h : K (.bool (decide (a ≤ b))) w) : OpW P (.binOp .leq t x y t') ty e w K :=
  OpW.binInt hx hy (by simp [binOp, Op.intCmp]) h
theorem OpW.gtr {t t' : TypeId} {x y : Operand} {k : IntKind} {a b : Int} (hx : ev e x = .int k a) (hy : ev e y = .int k b) (h : K (.bool (decide (b < a))) w) : OpW P (.binOp .gtr t x y t') ty e w K :=
  OpW.binInt hx hy (by simp [binOp, Op.intCmp]) h
theorem OpW.geq {t t' : TypeId} {x y : Operand} {k : IntKind} {a b : Int} (hx : ev e x = .int k a) (hy : ev e y = .int k b) (h : K (.bool (decide (b ≤ a))) w) : OpW P (.binOp .geq t x y t') ty e w K :=
  OpW.binInt hx hy (by simp [binOp, Op.intCmp]) h
theorem OpW.eqlI {t t' : TypeId} {x y : Operand} {k : IntKind} {a b : Int} (hx : ev e x = .int k a) (hy : ev e y = .int k b) (h : K (.bool (decide (a = b))) w) : OpW P (.binOp .eql t x y t') ty e w K :=
  OpW.binInt hx hy (v := .bool (decide (a = b))) (by simp [binOp, Op.intCmp]; rfl) h
theorem OpW.neqI {t t' : TypeId} {x y : Operand} {k : IntKind} {a b : Int} (hx : ev e x = .int k a) (hy : ev e y = .int k b) (h : K (.bool (decide (¬ a = b))) w) : OpW P (.binOp .neq t x y t') ty e w K :=
  OpW.binInt hx hy (v := .bool (decide (¬ a = b))) (by simp [binOp, Op.intCmp, bne]; rfl) h
theorem OpW.shr {t t' : TypeId} {x y : Operand} {k k' : IntKind} {a b : Int} (c : Int) (hx : ev e x = .int k a) (hy : ev e y = .int k' b) (hb : 0 ≤ b) (hc : a.fdiv (2 ^ (min b.toNat k.bits)) = c) (h : K (.int k c) w) : OpW P (.binOp .shr t x y t') ty e w K :=
  OpW.binInt hx hy (v := .int k c) (by simp only [binOp, Op.shift]; rw [if_neg (by omega), hc]; rfl) h
theorem OpW.shl {t t' : TypeId} {x y : Operand} {k k' : IntKind} {a b : Int} (c : Int) (hx : ev e x = .int k a) (hy : ev e y = .int k' b) (hb : 0 ≤ b) (hc : k.wrap (a * 2 ^ (min b.toNat k.bits)) = c) (h : K (.int k c) w) : OpW P (.binOp .shl t x y t') ty e w K :=
  OpW.binInt hx hy (v := .int k c) (by simp only [binOp, Op.shift]; rw [if_neg (by omega), hc]; rfl) h
theorem OpW.bits {op : BinOp} {t t' : TypeId} {x y : Operand} {k : IntKind} {a b : Int} (c : Int) (hx : ev e x = .int k a) (hy : ev e y = .int k b) (hr : (Op.intBits op k a b).run P w = .ok (.int k c) w) (ho : op = .and ∨ op = .or ∨ op = .xor) (h : K (.int k c) w) : OpW P (.binOp op t x y t') ty e w K :=
  OpW.binInt hx hy (v := .int k c) (by rcases ho with rfl | rfl | rfl <;> simpa [binOp] using hr) h
theorem OpW.quo {t t' : TypeId} {x y : Operand} {k : IntKind} {a b : Int} (c : Int) (hx : ev e x = .int k a) (hy : ev e y = .int k b) (hb : b ≠ 0) (hc : k.wrap (a.tdiv b) = c) (h : K (.int k c) w) : OpW P (.binOp .quo t x y t') ty e w K :=
  OpW.binInt hx hy (v := .int k c) (by simp only [binOp, Op.intDiv]; simp only [ne_eq, not_true_eq_false, if_false]; rw [if_neg hb, hc]; rfl) h
theorem OpW.rem {t t' : TypeId} {x y : Operand} {k : IntKind} {a b : Int} (c : Int) (hx : ev e x = .int k a) (hy : ev e y = .int k b) (hb : b ≠ 0) (hc : a.tmod b = c) (h : K (.int k c) w) : OpW P (.binOp .rem t x y t') ty e w K :=
  OpW.binInt hx hy (v := .int k c) (by simp only [binOp, Op.intDiv]; simp only [ne_eq, not_true_eq_false, if_false]; rw [if_neg hb, hc]; rfl) h
theorem OpW.conv {s d : TypeId} {k k' : IntKind} {x : Operand} {a : Int} [hs : IntT P s k'] [hd : IntT P d k] (c : Int) (hx : ev e x = .int k' a) (hc : k.wrap a = c) (h : K (.int k c) w) : OpW P (.convert s d x) ty e w K :=
  OpW.of_sem (s := convert s d (ev e x)) rfl (v := .int k c) (by rw [hx]; simp [convert, Sem.run_bind, hs.h, hd.h, Result.andThen, Conv.intToInt, hc]) h

/-! ### Bools, pointers, slices held against nil -/
theorem equal_bool {t : TypeId} {a b : Bool} [ht : BoolT P t] : (Op.equal t (.bool a) (.bool b)).run P w = .ok (a == b) w := by
  show (Op.equalIn (9999 + 1) t _ _).run P w = _
  rw [Op.equalIn, Sem.run_bind, ht.h]
  rfl
theorem equal_ptr {t el : TypeId} {A : Option Addr} [ht : PtrT P t el] : (Op.equal t (.pointer A) (.pointer none)).run P w = .ok A.isNone w := by
  show (Op.equalIn (9999 + 1) t _ _).run P w = _
  rw [Op.equalIn, Sem.run_bind, ht.h]
  cases A <;> rfl
theorem equal_slice {t el : TypeId} {A : Option Addr} {n c m c' : Nat} [ht : SliceT P t el] : (Op.equal t (.slice A n c) (.slice none m c')).run P w = .ok A.isNone w := by
  show (Op.equalIn (9999 + 1) t _ _).run P w = _
  rw [Op.equalIn, Sem.run_bind, ht.h]
  cases A <;> rfl
theorem guard_other {op : BinOp} {t : TypeId} {x y : Operand} {a b : Value} (h1 : ∀ cs, a ≠ .agg cs) (h2 : a ≠ .nilIface) : (eqGuard op t x y a b).run P w = .ok () w := by
  unfold eqGuard
  cases a <;> first
    | exact absurd rfl h2
    | exact absurd rfl (h1 _)
    | (cases op <;> cases b <;> simp <;> rfl)

theorem OpW.eqlB {t t' : TypeId} {x y : Operand} {a b : Bool} [ht : BoolT P t] (hx : ev e x = .bool a) (hy : ev e y = .bool b) (h : K (.bool (a == b)) w) : OpW P (.binOp .eql t x y t') ty e w K :=
  OpW.bin hx hy (by rw [Sem.run_bind, guard_other (by simp) (by simp)]; show Sem.run P (do pure (Value.bool (← Op.equal t (.bool a) (.bool b)))) w = _; rw [Sem.run_bind, equal_bool]; rfl) h
theorem OpW.neqB {t t' : TypeId} {x y : Operand} {a b : Bool} [ht : BoolT P t] (hx : ev e x = .bool a) (hy : ev e y = .bool b) (h : K (.bool (!(a == b))) w) : OpW P (.binOp .neq t x y t') ty e w K :=
  OpW.bin hx hy (by rw [Sem.run_bind, guard_other (by simp) (by simp)]; show Sem.run P (do pure (Value.bool (!(← Op.equal t (.bool a) (.bool b))))) w = _; rw [Sem.run_bind, equal_bool]; rfl) h
theorem OpW.eqlP {t t' el : TypeId} {x y : Operand} {A : Option Addr} [ht : PtrT P t el] (hx : ev e x = .pointer A) (hy : ev e y = .pointer none) (h : K (.bool A.isNone) w) : OpW P (.binOp .eql t x y t') ty e w K :=
  OpW.bin hx hy (by rw [Sem.run_bind, guard_other (by simp) (by simp)]; show Sem.run P (do pure (Value.bool (← Op.equal t (.pointer A) (.pointer none)))) w = _; rw [Sem.run_bind, equal_ptr]; rfl) h
theorem OpW.neqP {t t' el : TypeId} {x y : Operand} {A : Option Addr} [ht : PtrT P t el] (hx : ev e x = .pointer A) (hy : ev e y = .pointer none) (h : K (.bool (!A.isNone)) w) : OpW P (.binOp .neq t x y t') ty e w K :=
  OpW.bin hx hy (by rw [Sem.run_bind, guard_other (by simp) (by simp)]; show Sem.run P (do pure (Value.bool (!(← Op.equal t (.pointer A) (.pointer none))))) w = _; rw [Sem.run_bind, equal_ptr]; rfl) h
theorem OpW.eqlS {t t' el : TypeId} {x y : Operand} {A : Option Addr} {n c m c' : Nat} [ht : SliceT P t el] (hx : ev e x = .slice A n c) (hy : ev e y = .slice none m c') (h : K (.bool A.isNone) w) : OpW P (.binOp .eql t x y t') ty e w K :=
  OpW.bin hx hy (by rw [Sem.run_bind, guard_other (by simp) (by simp)]; show Sem.run P (do pure (Value.bool (← Op.equal t (.slice A n c) (.slice none m c')))) w = _; rw [Sem.run_bind, equal_slice]; rfl) h

/-! ### Builtins without memory -/
theorem OpW.builtin {b : Builtin} {args : Array Operand} {ats : Array TypeId} {s : Sem Value} {v : Value} {w' : World}
    (hb : ∀ cs, builtin b ats ty cs (args.map (ev e)) = (do pure (.value (← s)))) (hr : s.run P w = .ok v w') (h : K v w') : OpW P (.call ⟨.builtin b, args, ats⟩) ty e w K :=
  OpW.of_run (v := v) (w' := w') (by simp only [execOp, resolve, invoke, pure_bind]; rw [hb]; simp [Sem.run_bind, hr, Result.andThen]) h
theorem OpW.len {x : Operand} {t el : TypeId} {A : Option Addr} {n c : Nat} [ht : SliceT P t el] (hx : ev e x = .slice A n c) (h : K (.int .i64 (n : Int)) w) : OpW P (.call ⟨.builtin .len, #[x], #[t]⟩) ty e w K :=
  OpW.builtin (s := Builtin.len_ #[t] ty #[ev e x]) (fun _ => by simp [Go.builtin]) (by rw [hx]; simp [Builtin.len_, Sem.run_bind, ht.h, Result.andThen, goInt]) h
theorem OpW.lenStr {x : Operand} {t : TypeId} {s : ByteArray} [ht : StrT P t] (hx : ev e x = .string s) (h : K (.int .i64 (s.size : Int)) w) : OpW P (.call ⟨.builtin .len, #[x], #[t]⟩) ty e w K :=
  OpW.builtin (s := Builtin.len_ #[t] ty #[ev e x]) (fun _ => by simp [Go.builtin]) (by rw [hx]; simp [Builtin.len_, Sem.run_bind, ht.h, Result.andThen, goInt]) h
theorem OpW.cap {x : Operand} {t el : TypeId} {A : Option Addr} {n c : Nat} [ht : SliceT P t el] (hx : ev e x = .slice A n c) (h : K (.int .i64 (c : Int)) w) : OpW P (.call ⟨.builtin .cap, #[x], #[t]⟩) ty e w K :=
  OpW.builtin (s := Builtin.cap_ #[t] ty #[ev e x]) (fun _ => by simp [Go.builtin]) (by rw [hx]; simp [Builtin.cap_, Sem.run_bind, ht.h, Result.andThen, goInt]) h
theorem OpW.min {x y : Operand} {ats : Array TypeId} {k k' : IntKind} {a b : Int} (hx : ev e x = .int k a) (hy : ev e y = .int k' b) (h : K (.int k (if b < a then b else a)) w) : OpW P (.call ⟨.builtin .min, #[x, y], ats⟩) ty e w K :=
  OpW.builtin (s := Builtin.min_ ats ty #[ev e x, ev e y]) (fun _ => by simp [Go.builtin]) (by rw [hx, hy]; simp [Builtin.min_, Builtin.min2]) h
theorem OpW.max {x y : Operand} {ats : Array TypeId} {k k' : IntKind} {a b : Int} (hx : ev e x = .int k a) (hy : ev e y = .int k' b) (h : K (.int k (if b > a then b else a)) w) : OpW P (.call ⟨.builtin .max, #[x, y], ats⟩) ty e w K :=
  OpW.builtin (s := Builtin.max_ ats ty #[ev e x, ev e y]) (fun _ => by simp [Go.builtin]) (by rw [hx, hy]; simp [Builtin.max_, Builtin.max2]) h

/-! ### Calls -/
theorem OpW.call {f : FuncId} {args : Array Operand} {ats : Array TypeId} {vs : List Value} [hf : CallT P f] (h : Ret P f vs.toArray w K) (hv : args.toList.map (ev e) = vs) : OpW P (.call ⟨.value (.func f), args, ats⟩) ty e w K := by
  have hv' : args.map (ev e) = vs.toArray := by subst hv; cases args; simp
  unfold OpW
  have : (execOp (ev e) ⟨none, .call ⟨.value (.func f), args, ats⟩, ty, "", #[], none⟩).run P w = .ok (.enter f vs.toArray) w := by
    simp [execOp, resolve, ev, Deferred.ofValue, invoke, hf.h, hv']
  rw [this]
  exact h
theorem OpW.callFn {x : Operand} {f : FuncId} {first cap : Array Value} {args : Array Operand} {ats : Array TypeId} {vs : List Value} [hf : CallT P f] (hx : ev e x = .func (.func f) first cap) (h : Ret P f vs.toArray w K) (hv : first.toList ++ args.toList.map (ev e) ++ cap.toList = vs) : OpW P (.call ⟨.value x, args, ats⟩) ty e w K := by
  have hv' : first ++ (args.map (ev e) ++ cap) = vs.toArray := by subst hv; cases args; cases first; cases cap; simp
  unfold OpW
  have : (execOp (ev e) ⟨none, .call ⟨.value x, args, ats⟩, ty, "", #[], none⟩).run P w = .ok (.enter f vs.toArray) w := by
    simp [execOp, resolve, hx, Deferred.ofValue, invoke, hf.h, hv']
  rw [this]
  exact h
theorem OpW.makeFunc {fn : Fn} {first cap : Array Operand} {vs us : Array Value} (h1 : first.map (ev e) = vs) (h2 : cap.map (ev e) = us) (h : K (.func fn vs us) w) : OpW P (.makeFunc fn first cap) ty e w K :=
  OpW.of_sem (s := Instr.makeFunc fn (first.map (ev e)) (cap.map (ev e))) rfl (by rw [h1, h2]; simp [Instr.makeFunc]) h
end
end B
end Go.Proofs.YtbcmmamipjbfpaaDoor
