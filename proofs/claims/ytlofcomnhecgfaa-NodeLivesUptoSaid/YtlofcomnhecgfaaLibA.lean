/- Rules and contracts, put together out of smaller texts. Each part tells its conditions. -/
import Derived.Tactics
import Derived.Below
import Derived.Deep.LoopGhost
import Derived.Orders
import Derived.Laws.BitsLemmas
import Derived.Laws.AppendOwn
import Derived.Laws.BytesString
import Derived.Lib.ConvBytes
import Derived.Lib.Strings
import Derived.Deep.Quiet
import Derived.Test.YtlofcomnhecgfaaProg
import Derived.KernelRfl
import Derived.OrdersHeld
/- Rules of the walk: a function's temporaries as a function of their numbers; one rule for each form of code and each operation. No conditions. -/
namespace Go.Proofs.Ytlofcomnhecgfaa
namespace B

/-! ### The temporaries -/
abbrev Env := Nat → Value
def upd (e : Env) (d : Nat) (v : Value) : Env := fun t => bif Nat.beq t d then v else e t
def ev (e : Env) : Operand → Value
  | .tmp t => e t
  | .const v => v
  | .global g => .pointer (some ⟨g, 0, none⟩)
  | .func f => .func (.func f) #[] #[]

theorem blt_lt {d n : Nat} (h : Nat.blt d n = true) : d < n := Nat.le_of_ble_eq_true h

theorem upd_self (e : Env) (d : Nat) (v : Value) (h : e d = v) : upd e d v = e := by
  funext t
  unfold upd
  cases ht : Nat.beq t d with
  | true => rw [cond_true, ← h, Nat.eq_of_beq_eq_true ht]
  | false => rw [cond_false]

theorem rep1 {E : Env} {i1 : Nat} {v1 : Value} (h1 : E i1 = v1) : ∃ e0, E = upd e0 i1 v1 := ⟨E, by rw [upd_self _ _ _ h1]⟩
theorem rep2 {E : Env} {i1 : Nat} {v1 : Value} {i2 : Nat} {v2 : Value} (h1 : E i1 = v1) (h2 : E i2 = v2) : ∃ e0, E = upd (upd e0 i1 v1) i2 v2 := ⟨E, by rw [upd_self _ _ _ h1, upd_self _ _ _ h2]⟩
theorem rep3 {E : Env} {i1 : Nat} {v1 : Value} {i2 : Nat} {v2 : Value} {i3 : Nat} {v3 : Value} (h1 : E i1 = v1) (h2 : E i2 = v2) (h3 : E i3 = v3) : ∃ e0, E = upd (upd (upd e0 i1 v1) i2 v2) i3 v3 := ⟨E, by rw [upd_self _ _ _ h1, upd_self _ _ _ h2, upd_self _ _ _ h3]⟩
theorem rep4 {E : Env} {i1 : Nat} {v1 : Value} {i2 : Nat} {v2 : Value} {i3 : Nat} {v3 : Value} {i4 : Nat} {v4 : Value} (h1 : E i1 = v1) (h2 : E i2 = v2) (h3 : E i3 = v3) (h4 : E i4 = v4) : ∃ e0, E = upd (upd (upd (upd e0 i1 v1) i2 v2) i3 v3) i4 v4 := ⟨E, by rw [upd_self _ _ _ h1, upd_self _ _ _ h2, upd_self _ _ _ h3, upd_self _ _ _ h4]⟩
theorem rep5 {E : Env} {i1 : Nat} {v1 : Value} {i2 : Nat} {v2 : Value} {i3 : Nat} {v3 : Value} {i4 : Nat} {v4 : Value} {i5 : Nat} {v5 : Value} (h1 : E i1 = v1) (h2 : E i2 = v2) (h3 : E i3 = v3) (h4 : E i4 = v4) (h5 : E i5 = v5) : ∃ e0, E = upd (upd (upd (upd (upd e0 i1 v1) i2 v2) i3 v3) i4 v4) i5 v5 := ⟨E, by rw [upd_self _ _ _ h1, upd_self _ _ _ h2, upd_self _ _ _ h3, upd_self _ _ _ h4, upd_self _ _ _ h5]⟩
theorem rep6 {E : Env} {i1 : Nat} {v1 : Value} {i2 : Nat} {v2 : Value} {i3 : Nat} {v3 : Value} {i4 : Nat} {v4 : Value} {i5 : Nat} {v5 : Value} {i6 : Nat} {v6 : Value} (h1 : E i1 = v1) (h2 : E i2 = v2) (h3 : E i3 = v3) (h4 : E i4 = v4) (h5 : E i5 = v5) (h6 : E i6 = v6) : ∃ e0, E = upd (upd (upd (upd (upd (upd e0 i1 v1) i2 v2) i3 v3) i4 v4) i5 v5) i6 v6 := ⟨E, by rw [upd_self _ _ _ h1, upd_self _ _ _ h2, upd_self _ _ _ h3, upd_self _ _ _ h4, upd_self _ _ _ h5, upd_self _ _ _ h6]⟩
theorem rep7 {E : Env} {i1 : Nat} {v1 : Value} {i2 : Nat} {v2 : Value} {i3 : Nat} {v3 : Value} {i4 : Nat} {v4 : Value} {i5 : Nat} {v5 : Value} {i6 : Nat} {v6 : Value} {i7 : Nat} {v7 : Value} (h1 : E i1 = v1) (h2 : E i2 = v2) (h3 : E i3 = v3) (h4 : E i4 = v4) (h5 : E i5 = v5) (h6 : E i6 = v6) (h7 : E i7 = v7) : ∃ e0, E = upd (upd (upd (upd (upd (upd (upd e0 i1 v1) i2 v2) i3 v3) i4 v4) i5 v5) i6 v6) i7 v7 := ⟨E, by rw [upd_self _ _ _ h1, upd_self _ _ _ h2, upd_self _ _ _ h3, upd_self _ _ _ h4, upd_self _ _ _ h5, upd_self _ _ _ h6, upd_self _ _ _ h7]⟩
theorem rep8 {E : Env} {i1 : Nat} {v1 : Value} {i2 : Nat} {v2 : Value} {i3 : Nat} {v3 : Value} {i4 : Nat} {v4 : Value} {i5 : Nat} {v5 : Value} {i6 : Nat} {v6 : Value} {i7 : Nat} {v7 : Value} {i8 : Nat} {v8 : Value} (h1 : E i1 = v1) (h2 : E i2 = v2) (h3 : E i3 = v3) (h4 : E i4 = v4) (h5 : E i5 = v5) (h6 : E i6 = v6) (h7 : E i7 = v7) (h8 : E i8 = v8) : ∃ e0, E = upd (upd (upd (upd (upd (upd (upd (upd e0 i1 v1) i2 v2) i3 v3) i4 v4) i5 v5) i6 v6) i7 v7) i8 v8 := ⟨E, by rw [upd_self _ _ _ h1, upd_self _ _ _ h2, upd_self _ _ _ h3, upd_self _ _ _ h4, upd_self _ _ _ h5, upd_self _ _ _ h6, upd_self _ _ _ h7, upd_self _ _ _ h8]⟩
theorem rep9 {E : Env} {i1 : Nat} {v1 : Value} {i2 : Nat} {v2 : Value} {i3 : Nat} {v3 : Value} {i4 : Nat} {v4 : Value} {i5 : Nat} {v5 : Value} {i6 : Nat} {v6 : Value} {i7 : Nat} {v7 : Value} {i8 : Nat} {v8 : Value} {i9 : Nat} {v9 : Value} (h1 : E i1 = v1) (h2 : E i2 = v2) (h3 : E i3 = v3) (h4 : E i4 = v4) (h5 : E i5 = v5) (h6 : E i6 = v6) (h7 : E i7 = v7) (h8 : E i8 = v8) (h9 : E i9 = v9) : ∃ e0, E = upd (upd (upd (upd (upd (upd (upd (upd (upd e0 i1 v1) i2 v2) i3 v3) i4 v4) i5 v5) i6 v6) i7 v7) i8 v8) i9 v9 := ⟨E, by rw [upd_self _ _ _ h1, upd_self _ _ _ h2, upd_self _ _ _ h3, upd_self _ _ _ h4, upd_self _ _ _ h5, upd_self _ _ _ h6, upd_self _ _ _ h7, upd_self _ _ _ h8, upd_self _ _ _ h9]⟩
theorem rep10 {E : Env} {i1 : Nat} {v1 : Value} {i2 : Nat} {v2 : Value} {i3 : Nat} {v3 : Value} {i4 : Nat} {v4 : Value} {i5 : Nat} {v5 : Value} {i6 : Nat} {v6 : Value} {i7 : Nat} {v7 : Value} {i8 : Nat} {v8 : Value} {i9 : Nat} {v9 : Value} {i10 : Nat} {v10 : Value} (h1 : E i1 = v1) (h2 : E i2 = v2) (h3 : E i3 = v3) (h4 : E i4 = v4) (h5 : E i5 = v5) (h6 : E i6 = v6) (h7 : E i7 = v7) (h8 : E i8 = v8) (h9 : E i9 = v9) (h10 : E i10 = v10) : ∃ e0, E = upd (upd (upd (upd (upd (upd (upd (upd (upd (upd e0 i1 v1) i2 v2) i3 v3) i4 v4) i5 v5) i6 v6) i7 v7) i8 v8) i9 v9) i10 v10 := ⟨E, by rw [upd_self _ _ _ h1, upd_self _ _ _ h2, upd_self _ _ _ h3, upd_self _ _ _ h4, upd_self _ _ _ h5, upd_self _ _ _ h6, upd_self _ _ _ h7, upd_self _ _ _ h8, upd_self _ _ _ h9, upd_self _ _ _ h10]⟩
theorem rep11 {E : Env} {i1 : Nat} {v1 : Value} {i2 : Nat} {v2 : Value} {i3 : Nat} {v3 : Value} {i4 : Nat} {v4 : Value} {i5 : Nat} {v5 : Value} {i6 : Nat} {v6 : Value} {i7 : Nat} {v7 : Value} {i8 : Nat} {v8 : Value} {i9 : Nat} {v9 : Value} {i10 : Nat} {v10 : Value} {i11 : Nat} {v11 : Value} (h1 : E i1 = v1) (h2 : E i2 = v2) (h3 : E i3 = v3) (h4 : E i4 = v4) (h5 : E i5 = v5) (h6 : E i6 = v6) (h7 : E i7 = v7) (h8 : E i8 = v8) (h9 : E i9 = v9) (h10 : E i10 = v10) (h11 : E i11 = v11) : ∃ e0, E = upd (upd (upd (upd (upd (upd (upd (upd (upd (upd (upd e0 i1 v1) i2 v2) i3 v3) i4 v4) i5 v5) i6 v6) i7 v7) i8 v8) i9 v9) i10 v10) i11 v11 := ⟨E, by rw [upd_self _ _ _ h1, upd_self _ _ _ h2, upd_self _ _ _ h3, upd_self _ _ _ h4, upd_self _ _ _ h5, upd_self _ _ _ h6, upd_self _ _ _ h7, upd_self _ _ _ h8, upd_self _ _ _ h9, upd_self _ _ _ h10, upd_self _ _ _ h11]⟩
theorem rep12 {E : Env} {i1 : Nat} {v1 : Value} {i2 : Nat} {v2 : Value} {i3 : Nat} {v3 : Value} {i4 : Nat} {v4 : Value} {i5 : Nat} {v5 : Value} {i6 : Nat} {v6 : Value} {i7 : Nat} {v7 : Value} {i8 : Nat} {v8 : Value} {i9 : Nat} {v9 : Value} {i10 : Nat} {v10 : Value} {i11 : Nat} {v11 : Value} {i12 : Nat} {v12 : Value} (h1 : E i1 = v1) (h2 : E i2 = v2) (h3 : E i3 = v3) (h4 : E i4 = v4) (h5 : E i5 = v5) (h6 : E i6 = v6) (h7 : E i7 = v7) (h8 : E i8 = v8) (h9 : E i9 = v9) (h10 : E i10 = v10) (h11 : E i11 = v11) (h12 : E i12 = v12) : ∃ e0, E = upd (upd (upd (upd (upd (upd (upd (upd (upd (upd (upd (upd e0 i1 v1) i2 v2) i3 v3) i4 v4) i5 v5) i6 v6) i7 v7) i8 v8) i9 v9) i10 v10) i11 v11) i12 v12 := ⟨E, by rw [upd_self _ _ _ h1, upd_self _ _ _ h2, upd_self _ _ _ h3, upd_self _ _ _ h4, upd_self _ _ _ h5, upd_self _ _ _ h6, upd_self _ _ _ h7, upd_self _ _ _ h8, upd_self _ _ _ h9, upd_self _ _ _ h10, upd_self _ _ _ h11, upd_self _ _ _ h12]⟩

structure Rep (N : Nat) (a : Act) (e : Env) : Prop where
  defers : a.defers = []
  size : a.tmps.size = N
  get : ∀ t, a.tmps.getD t undef = e t

theorem Rep.put {N : Nat} {a : Act} {e : Env} (h : Rep N a e) {d : Nat} (hd : d < N) (v : Value) : Rep N (a.put (some d) v) (upd e d v) := by
  refine ⟨h.defers, by simp [Act.put, h.size], fun t => ?_⟩
  have hg := h.get t
  have hs := h.size
  simp only [Act.put, Array.getD_eq_getD_getElem?, Array.getElem?_setIfInBounds, upd] at *
  by_cases e1 : d = t
  · subst e1
    rw [if_pos rfl, if_pos (by omega), Nat.beq_refl, cond_true]
    rfl
  · have : Nat.beq t d = false := by
      cases hb : Nat.beq t d with
      | true => exact absurd (Nat.eq_of_beq_eq_true hb).symm e1
      | false => rfl
    rw [if_neg e1, this, cond_false]
    exact hg

theorem Rep.eval {N : Nat} {a : Act} {e : Env} (h : Rep N a e) : a.eval = ev e := by
  funext x
  cases x with
  | tmp t => exact h.get t
  | const v => rfl
  | global g => rfl
  | func f => rfl

theorem Rep.slot {N : Nat} {a : Act} {e : Env} (h : Rep N a e) {t : Nat} (ht : t < N) : a.tmps[t]? = some (e t) := by
  have := h.get t
  have hs := h.size
  rw [Array.getD_eq_getD_getElem?, Array.getElem?_eq_getElem (by omega)] at this
  rw [Array.getElem?_eq_getElem (by omega)]
  exact congrArg some this

/-! ### Code -/
abbrev Post := Exit → Env → World → Prop
def lift (N : Nat) (Q : Post) : Exit → Act → World → Prop := fun x a w => ∃ e, Rep N a e ∧ Q x e w
def CW (P : Program) (N : Nat) (c : Code) (Q : Post) (e : Env) (w : World) : Prop := ∀ a, Rep N a e → c.wp P (lift N Q) a w

section code
variable {P : Program} {N : Nat} {Q : Post} {e : Env} {w : World}
set_option linter.unusedVariables false

/-- What stands behind, then all other ways out. -/
def thn (K : Env → World → Prop) (Q : Post) : Post
  | .normal, e, w => K e w
  | x, e, w => Q x e w
def blk (id : Nat) (Q : Post) : Post
  | .exit id', e, w => if id' = id then Q .normal e w else Q (.exit id') e w
  | x, e, w => Q x e w

theorem thn_ret {K : Env → World → Prop} (h : Q .ret e w) : thn K Q .ret e w := h
theorem thn_exit {K : Env → World → Prop} {id : Nat} (h : Q (.exit id) e w) : thn K Q (.exit id) e w := h
theorem thn_norm {K : Env → World → Prop} (h : K e w) : thn K Q .normal e w := h
theorem blk_ret {id : Nat} (h : Q .ret e w) : blk id Q .ret e w := h
theorem blk_norm {id : Nat} (h : Q .normal e w) : blk id Q .normal e w := h
theorem blk_here {id : Nat} (h : Q .normal e w) : blk id Q (.exit id) e w := by show (if id = id then _ else _); rw [if_pos rfl]; exact h
theorem blk_past {id id' : Nat} (hne : Nat.beq id' id = false) (h : Q (.exit id') e w) : blk id Q (.exit id') e w := by
  show (if id' = id then _ else _)
  rw [if_neg (fun he => by rw [he, Nat.beq_refl] at hne; cases hne)]; exact h
theorem CW.seq {x y : Code} (h : ∀ K : Env → World → Prop, (∀ e w, CW P N y Q e w → K e w) → CW P N x (thn K Q) e w) : CW P N (.seq x y) Q e w := by
  intro a ha
  refine wp_seq ?_
  refine Code.wp_mono ?_ (h (CW P N y Q) (fun _ _ h => h) a ha)
  rintro x a' w' ⟨e', hr, hq⟩
  cases x with
  | normal => exact hq a' hr
  | exit id => exact ⟨e', hr, hq⟩
  | goto l => exact ⟨e', hr, hq⟩
  | ret => exact ⟨e', hr, hq⟩
  | panic ch => exact ⟨e', hr, hq⟩
  | outgrown => exact ⟨e', hr, hq⟩

theorem CW.block {id : Nat} {c : Code} (h : CW P N c (blk id Q) e w) : CW P N (.block id c) Q e w := by
  intro a ha
  refine wp_block ?_
  refine Code.wp_mono ?_ (h a ha)
  rintro x a' w' ⟨e', hr, hq⟩
  cases x with
  | exit id' =>
    show if id' = id then _ else _
    unfold blk at hq
    split
    · rename_i h1; simp only [h1, if_true] at hq; exact ⟨e', hr, hq⟩
    · rename_i h1; simp only [h1, if_false] at hq; exact ⟨e', hr, hq⟩
  | normal => exact ⟨e', hr, hq⟩
  | goto l => exact ⟨e', hr, hq⟩
  | ret => exact ⟨e', hr, hq⟩
  | panic ch => exact ⟨e', hr, hq⟩
  | outgrown => exact ⟨e', hr, hq⟩

theorem CW.cond {c : Operand} {x y : Code} {b : Bool} (hc : ev e c = .bool b) (ht : b = true → CW P N x Q e w) (hf : b = false → CW P N y Q e w) : CW P N (.cond c x y) Q e w := by
  intro a ha
  refine wp_cond_split (t := b) (by rw [ha.eval]; exact hc) (fun h => ht h a ha) (fun h => hf h a ha)

/-- A test on a proposition. -/
theorem CW.condP {c : Operand} {x y : Code} {p : Prop} [Decidable p] (hc : ev e c = .bool (decide p)) (ht : p → CW P N x Q e w) (hf : ¬ p → CW P N y Q e w) : CW P N (.cond c x y) Q e w :=
  CW.cond hc (fun h => ht (of_decide_eq_true h)) (fun h => hf (of_decide_eq_false h))
theorem CW.condN {c : Operand} {x y : Code} {p : Prop} [Decidable p] (hc : ev e c = .bool (!decide p)) (ht : ¬ p → CW P N x Q e w) (hf : p → CW P N y Q e w) : CW P N (.cond c x y) Q e w :=
  CW.cond hc (fun h => ht (by simpa using h)) (fun h => hf (by simpa using h))
theorem CW.condT {c : Operand} {x y : Code} (hc : ev e c = .bool true) (ht : CW P N x Q e w) : CW P N (.cond c x y) Q e w :=
  CW.cond hc (fun _ => ht) (fun h => by cases h)
theorem CW.condF {c : Operand} {x y : Code} (hc : ev e c = .bool false) (hf : CW P N y Q e w) : CW P N (.cond c x y) Q e w :=
  CW.cond hc (fun h => by cases h) (fun _ => hf)

theorem CW.skip (h : Q .normal e w) : CW P N .skip Q e w := fun _ ha => wp_skip ⟨e, ha, h⟩
theorem CW.label {l : Nat} (h : Q .normal e w) : CW P N (.label l) Q e w := fun _ ha => wp_label ⟨e, ha, h⟩
theorem CW.exit {id : Nat} (h : Q (.exit id) e w) : CW P N (.exit id) Q e w := fun _ ha => wp_exit ⟨e, ha, h⟩
theorem CW.ret (h : Q .ret e w) : CW P N .ret Q e w := fun _ ha => wp_ret ⟨e, ha, h⟩

/-- A loop: a relation that bears a number, which each round lowers. -/
theorem CW.loop {c : Code} (J : Nat → Env → World → Prop) (n0 : Nat) (h0 : J n0 e w)
    (round : ∀ n e w, J n e w → ∀ K : Env → World → Prop, (∀ m e w, m < n → J m e w → K e w) → CW P N c (thn K Q) e w) : CW P N (.loop c) Q e w := by
  intro a ha
  refine wp_loop_ghost (fun n a w => ∃ e, Rep N a e ∧ J n e w) n0 ⟨e, ha, h0⟩ ?_
  rintro n a w ⟨e, hr, hJ⟩
  refine Code.wp_mono ?_ (round n e w hJ (fun e w => ∃ m, m < n ∧ J m e w) (fun m _ _ hm h => ⟨m, hm, h⟩) a hr)
  rintro x a' w' ⟨e', hr', hq⟩
  cases x with
  | normal => obtain ⟨m, hm, hj⟩ := hq; exact ⟨m, hm, e', hr', hj⟩
  | exit id => exact ⟨e', hr', hq⟩
  | goto l => exact ⟨e', hr', hq⟩
  | ret => exact ⟨e', hr', hq⟩
  | panic ch => exact ⟨e', hr', hq⟩
  | outgrown => exact ⟨e', hr', hq⟩

theorem CW.mono {c : Code} {Q' : Post} (hq : ∀ x e w, Q x e w → Q' x e w) (h : CW P N c Q e w) : CW P N c Q' e w :=
  fun a ha => Code.wp_mono (fun x a w ⟨e, hr, h⟩ => ⟨e, hr, hq x e w h⟩) (h a ha)

/-! ### Single operations -/
/-- What the operation leaves: its value and the world behind it. -/
def upon (P : Program) (K : Value → World → Prop) : Result Next → Prop
  | .ok (.value v) w => K v w
  | .ok .skip w => K undef w
  | .ok (.enter f args) w => Calls P f args w fun x w' => ∃ v, x = .returned v ∧ K v w'
  | _ => False
def OpW (P : Program) (o : Op) (ty : TypeId) (e : Env) (w : World) (K : Value → World → Prop) : Prop :=
  upon P K ((execOp (ev e) ⟨none, o, ty, "", #[], none⟩).run P w)

theorem OpW.mono {o : Op} {ty : TypeId} {K K' : Value → World → Prop} (hk : ∀ v w, K v w → K' v w) (h : OpW P o ty e w K) : OpW P o ty e w K' := by
  unfold OpW at *
  generalize (execOp (ev e) ⟨none, o, ty, "", #[], none⟩).run P w = r at *
  cases r with
  | ok n w' =>
    cases n <;> simp only [upon] at h ⊢ <;> first
      | exact hk _ _ h
      | exact h.mono fun x w'' ⟨v, hx, h2⟩ => ⟨v, hx, hk _ _ h2⟩
  | halt x w' => simp only [upon] at h

theorem OpW.toWp {o : Oper} {a : Act} {K : Act → World → Prop} {Q' : Exit → Act → World → Prop} (he : a.eval = ev e) (h : OpW P o.op o.type e w fun v w' => K (a.put o.dst v) w') : o.wp P a w K Q' := by
  unfold OpW at h
  unfold Oper.wp
  rw [he]
  have e1 : execOp (ev e) o = execOp (ev e) ⟨none, o.op, o.type, "", #[], none⟩ := rfl
  rw [e1]
  generalize (execOp (ev e) ⟨none, o.op, o.type, "", #[], none⟩).run P w = r at *
  cases r with
  | ok n w' =>
    cases n <;> simp only [upon] at h <;> simp only [Oper.upon]
    case value v => exact h
    case skip => exact h
    case enter f args => exact h.mono fun _ _ ⟨_, hx, h2⟩ => by subst hx; exact h2
  | halt x w' => simp only [upon] at h

def WL (P : Program) (N : Nat) (ops : Array Oper) (Q : Post) (l : List Oper) (e : Env) (w : World) : Prop := ∀ a, Rep N a e → wpList P ops (lift N Q) l a w

theorem CW.region {id : Nat} {l : List Oper} (h : WL P N l.toArray Q l e w) : CW P N (.region id l.toArray false) Q e w :=
  fun a ha => wp_region_lit (h a ha)

variable {ops : Array Oper} {rest : List Oper}
theorem WL.nil (h : Q .normal e w) : WL P N ops Q [] e w := fun _ ha => wpList_nil ⟨e, ha, h⟩

theorem WL.step {d : Nat} {op : Op} {ty : TypeId} {pos : String} {after : Array Edge} (hd : Nat.blt d N = true)
    (h : OpW P op ty e w fun v w' => WL P N ops Q rest (upd e d v) w') : WL P N ops Q (⟨some d, op, ty, pos, after, none⟩ :: rest) e w := by
  intro a ha
  refine wpList_plain rfl fun K hK => ?_
  refine OpW.toWp ha.eval (h.mono fun v w' hl => hK _ _ (hl _ (ha.put (blt_lt hd) v)))

theorem WL.step0 {op : Op} {ty : TypeId} {pos : String} {after : Array Edge}
    (h : OpW P op ty e w fun _ w' => WL P N ops Q rest e w') : WL P N ops Q (⟨none, op, ty, pos, after, none⟩ :: rest) e w := by
  intro a ha
  refine wpList_plain rfl fun K hK => ?_
  exact OpW.toWp (o := ⟨none, op, ty, pos, after, none⟩) ha.eval (h.mono fun v w' hl => hK _ _ (hl _ ha))

theorem wanted_of {o : Oper} {a : Act} {j dj : Nat} {want b : Bool} (hr : Rep N a e) (hg : o.guard = some (j, want)) (hj : (ops[j]?).bind (·.dst) = some dj) (hn : Nat.blt dj N = true) (hb : e dj = .bool b) :
    Region.wanted o (yielded ops a.tmps) = (b == want) := by
  have := hr.slot (blt_lt hn)
  simp [Region.wanted, hg, yielded, hj, this, hb]

theorem WL.gstep {d j dj : Nat} {want : Bool} {op : Op} {ty : TypeId} {pos : String} {after : Array Edge} (hj : (ops[j]?).bind (·.dst) = some dj) (hn : Nat.blt dj N = true) (hd : Nat.blt d N = true)
    (hb : e dj = .bool want)
    (h : OpW P op ty e w fun v w' => WL P N ops Q rest (upd e d v) w') : WL P N ops Q (⟨some d, op, ty, pos, after, some (j, want)⟩ :: rest) e w := by
  intro a ha
  refine wpList_step fun K hK => ?_
  rw [if_pos (by rw [wanted_of (N := N) (e := e) ha rfl hj hn hb]; simp)]
  refine OpW.toWp ha.eval (h.mono fun v w' hl => hK _ _ (hl _ (ha.put (blt_lt hd) v)))

theorem WL.gskip {d j dj : Nat} {want : Bool} {op : Op} {ty : TypeId} {pos : String} {after : Array Edge} (hj : (ops[j]?).bind (·.dst) = some dj) (hn : Nat.blt dj N = true) (hd : Nat.blt d N = true)
    (hb : e dj = .bool (!want))
    (h : WL P N ops Q rest (upd e d undef) w) : WL P N ops Q (⟨some d, op, ty, pos, after, some (j, want)⟩ :: rest) e w := by
  intro a ha
  refine wpList_step fun K hK => ?_
  rw [if_neg (by rw [wanted_of (N := N) (e := e) ha rfl hj hn hb]; cases want <;> simp)]
  exact hK _ _ (h _ (ha.put (blt_lt hd) undef))

/-! ### Functions -/
/-- A call that returns: the value, and the world behind it. -/
def Ret (P : Program) (f : FuncId) (args : Array Value) (w : World) (R : Value → World → Prop) : Prop :=
  Calls P f args w fun x w' => ∃ v, x = .returned v ∧ R v w'

theorem Ret.mono {f : FuncId} {args : Array Value} {R R' : Value → World → Prop} (h : Ret P f args w R) (hr : ∀ v w', R v w' → R' v w') : Ret P f args w R' :=
  Calls.mono h fun _ _ ⟨v, hx, h2⟩ => ⟨v, hx, hr _ _ h2⟩

def outOf (P : Program) (fn : Func) (R : Value → World → Prop) : Post
  | .normal, e, w | .ret, e, w => ∀ tmps : Array Value, (∀ t, tmps.getD t undef = e t) → ∃ v, (results fn tmps).run P w = .ok v w ∧ R v w
  | _, _, _ => False

def envOf : List Value → Env
  | [] => fun _ => undef
  | l => fun t => l.getD t undef

theorem Ret.enter {f : FuncId} {fn : Func} {c : Code} {args : List Value} {R : Value → World → Prop} {N : Nat} (hf : P.funcs[f]? = some fn) (hb : fn.body = some c) (hn : fn.ntmps = N) (hN : Nat.ble args.length N = true)
    (h : CW P N c (outOf P fn R) (fun t => args.getD t undef) w) : Ret P f args.toArray w R := by
  refine calls_of_wp hf hb ?_
  subst hn
  have hle := Nat.le_of_ble_eq_true hN
  refine Code.wp_mono ?_ (h ⟨args.toArray ++ Array.replicate (fn.ntmps - args.toArray.size) undef, []⟩ ⟨rfl, by simp; omega, fun t => ?_⟩)
  · rintro x a w' ⟨e', hr, hq⟩
    cases x with
    | normal => obtain ⟨v, h1, h2⟩ := hq a.tmps hr.get; exact ⟨hr.defers, v, h1, v, rfl, h2⟩
    | ret => obtain ⟨v, h1, h2⟩ := hq a.tmps hr.get; exact ⟨hr.defers, v, h1, v, rfl, h2⟩
    | exit id => exact hq.elim
    | goto l => exact hq.elim
    | panic ch => exact hq.elim
    | outgrown => exact hq.elim
  · simp only [Array.getD_eq_getD_getElem?, List.getD_eq_getElem?_getD, Array.getElem?_append]
    split
    · simp
    · rename_i h1
      rw [List.getElem?_eq_none (by simpa using h1), Array.getElem?_replicate]
      split <;> rfl

theorem out1 {fn : Func} {R : Value → World → Prop} {t : Nat} {v : Value} (hr : fn.results = #[.tmp t]) (hv : e t = v) (h : R v w) {x : Exit} (hx : x = .normal ∨ x = .ret) : outOf P fn R x e w := by
  rcases hx with rfl | rfl <;> exact fun tmps ht => ⟨v, by simp [results, hr]; rw [← hv, ← ht]; simp, h⟩
theorem out2 {fn : Func} {R : Value → World → Prop} {t u : Nat} {v1 v2 : Value} (hr : fn.results = #[.tmp t, .tmp u]) (hv : e t = v1) (hu : e u = v2) (h : R (.tuple #[v1, v2]) w) {x : Exit} (hx : x = .normal ∨ x = .ret) : outOf P fn R x e w := by
  rcases hx with rfl | rfl <;> exact fun tmps ht => ⟨.tuple #[v1, v2], by simp [results, hr]; rw [← hv, ← hu, ← ht, ← ht]; simp, h⟩
theorem out3 {fn : Func} {R : Value → World → Prop} {t u s : Nat} {v1 v2 v3 : Value} (hr : fn.results = #[.tmp t, .tmp u, .tmp s]) (hv : e t = v1) (hu : e u = v2) (hs : e s = v3) (h : R (.tuple #[v1, v2, v3]) w) {x : Exit} (hx : x = .normal ∨ x = .ret) : outOf P fn R x e w := by
  rcases hx with rfl | rfl <;> exact fun tmps ht => ⟨.tuple #[v1, v2, v3], by simp [results, hr]; rw [← hv, ← hu, ← hs, ← ht, ← ht, ← ht]; simp, h⟩
theorem out0 {fn : Func} {R : Value → World → Prop} (hr : fn.results = #[]) (h : R (.tuple #[]) w) {x : Exit} (hx : x = .normal ∨ x = .ret) : outOf P fn R x e w := by
  rcases hx with rfl | rfl <;> exact fun tmps ht => ⟨.tuple #[], by simp [results, hr], h⟩
end code
end B
end Go.Proofs.Ytlofcomnhecgfaa
/- Rules of the walk for the operations that touch no memory. No conditions. -/
namespace Go.Proofs.Ytlofcomnhecgfaa
namespace B
set_option linter.unusedVariables false
set_option linter.unusedSimpArgs false

/-! ### What is asked of the types -/
class Plain (P : Program) (t : TypeId) : Prop where
  h : ∀ w, (isAgg t).run P w = .ok false w
class AggT (P : Program) (t : TypeId) (n : outParam Nat) : Prop where
  h : ∀ w, (isAgg t).run P w = .ok true w
  s : ∀ w, (sizeOf t).run P w = .ok n w
class SizeT (P : Program) (t : TypeId) (n : outParam Nat) : Prop where
  h : ∀ w, (sizeOf t).run P w = .ok n w
class SliceT (P : Program) (t : TypeId) (el : outParam TypeId) : Prop where
  h : ∀ w, (underlying t).run P w = .ok (.slice el) w
class IntT (P : Program) (t : TypeId) (k : outParam IntKind) : Prop where
  h : ∀ w, (underlying t).run P w = .ok (.int k) w
class StrT (P : Program) (t : TypeId) : Prop where
  h : ∀ w, (underlying t).run P w = .ok .string w
class BoolT (P : Program) (t : TypeId) : Prop where
  h : ∀ w, (underlying t).run P w = .ok .bool w
class PtrT (P : Program) (t : TypeId) (el : outParam TypeId) : Prop where
  h : ∀ w, (underlying t).run P w = .ok (.pointer el) w
class ZeroT (P : Program) (t : TypeId) (v : outParam Value) : Prop where
  h : ∀ w, (zeroValue t).run P w = .ok v w
class BytesT (P : Program) (t : TypeId) (n : outParam Nat) : Prop where
  h : ∀ w, ∃ i : TypeInfo, (typeInfo t).run P w = .ok i w ∧ i.bytes = n
class FieldT (P : Program) (s : TypeId) (i : Nat) (off : outParam Nat) : Prop where
  h : ∃ fs f sz, (∀ w, (underlying s).run P w = .ok (.struct fs) w) ∧ fs[i]? = some f ∧ f.offset = off ∧ (∀ w, (sizeOf f.type).run P w = .ok sz w) ∧ sz ≠ 0
class CallT (P : Program) (f : FuncId) : Prop where
  h : ∀ args w, (callFunc f args).run P w = .ok (.enter f args) w

section
variable {P : Program} {e : Env} {w : World} {K : Value → World → Prop} {ty : TypeId}

theorem OpW.of_run {op : Op} {v : Value} {w' : World} (hr : (execOp (ev e) ⟨none, op, ty, "", #[], none⟩).run P w = .ok (.value v) w') (h : K v w') : OpW P op ty e w K := by
  unfold OpW; rw [hr]; exact h
theorem OpW.of_skip {op : Op} {w' : World} (hr : (execOp (ev e) ⟨none, op, ty, "", #[], none⟩).run P w = .ok .skip w') (h : K undef w') : OpW P op ty e w K := by
  unfold OpW; rw [hr]; exact h

/-- An operation that is one 'Sem Value'. -/
theorem OpW.of_sem {op : Op} {s : Sem Value} {v : Value} {w' : World} (he : execOp (ev e) ⟨none, op, ty, "", #[], none⟩ = (do pure (.value (← s)))) (hr : s.run P w = .ok v w') (h : K v w') : OpW P op ty e w K :=
  OpW.of_run (by rw [he]; simp [Sem.run_bind, hr, Result.andThen]) h
theorem OpW.of_unit {op : Op} {s : Sem Unit} {w' : World} (he : execOp (ev e) ⟨none, op, ty, "", #[], none⟩ = (do s; pure .skip)) (hr : s.run P w = .ok () w') (h : K undef w') : OpW P op ty e w K :=
  OpW.of_skip (by rw [he]; simp [Sem.run_bind, hr, Result.andThen]) h

theorem OpW.move {x : Operand} {v : Value} (hv : ev e x = v) (h : K v w) : OpW P (.move x) ty e w K := OpW.of_run (by simp [execOp, hv]) h
theorem OpW.assign {x : Operand} {v : Value} (hv : ev e x = v) (h : K v w) : OpW P (.assign x) ty e w K := OpW.of_run (by simp [execOp, hv]) h
theorem OpW.nilCheck {x : Operand} {A : Addr} (hv : ev e x = .pointer (some A)) (h : K (.pointer (some A)) w) : OpW P (.nilCheck x) ty e w K := OpW.of_run (by simp [execOp, hv]) h
theorem OpW.pick {c x y : Operand} {b : Bool} (hc : ev e c = .bool b) (h : K (if b then ev e x else ev e y) w) : OpW P (.pick c x y) ty e w K :=
  OpW.of_run (v := if b then ev e x else ev e y) (by simp [execOp, hc, asBool]) h
theorem OpW.pickT {c x y : Operand} {v : Value} (hc : ev e c = .bool true) (hx : ev e x = v) (h : K v w) : OpW P (.pick c x y) ty e w K := OpW.pick hc (by rw [if_pos rfl, hx]; exact h)
theorem OpW.pickF {c x y : Operand} {v : Value} (hc : ev e c = .bool false) (hy : ev e y = v) (h : K v w) : OpW P (.pick c x y) ty e w K := OpW.pick hc (by rw [if_neg Bool.false_ne_true, hy]; exact h)
/-- 'a || b', 'a && b' as values. -/
theorem OpW.pickOr {c x y : Operand} {b b' : Bool} (hc : ev e c = .bool b) (hx : ev e x = .bool true) (hy : b = false → ev e y = .bool b') (h : K (.bool (b || b')) w) : OpW P (.pick c x y) ty e w K :=
  OpW.pick hc (by cases b with | true => rw [if_pos rfl, hx]; exact h | false => rw [if_neg Bool.false_ne_true, hy rfl]; exact h)
theorem OpW.pickAnd {c x y : Operand} {b b' : Bool} (hc : ev e c = .bool b) (hx : b = true → ev e x = .bool b') (hy : ev e y = .bool false) (h : K (.bool (b && b')) w) : OpW P (.pick c x y) ty e w K :=
  OpW.pick hc (by cases b with | true => rw [if_pos rfl, hx rfl]; exact h | false => rw [if_neg Bool.false_ne_true, hy]; exact h)
theorem OpW.extract {x : Operand} {vs : Array Value} {i : Nat} {v : Value} (hv : ev e x = .tuple vs) (hi : vs[i]? = some v) (h : K v w) : OpW P (.extract x i) ty e w K :=
  OpW.of_sem (s := Instr.extract (ev e x) i) rfl (by rw [hv]; simp [Instr.extract, hi]) h
theorem OpW.not {t : TypeId} {x : Operand} {b : Bool} (hv : ev e x = .bool b) (h : K (.bool (!b)) w) : OpW P (.unOp .not t x) ty e w K :=
  OpW.of_sem (s := Op.unary .not (ev e x)) rfl (by rw [hv]; simp [Op.unary]) h
theorem OpW.notP {t : TypeId} {x : Operand} {p : Prop} [Decidable p] (hv : ev e x = .bool (decide p)) (h : K (.bool (decide (¬ p))) w) : OpW P (.unOp .not t x) ty e w K :=
  OpW.not hv (by rw [← decide_not]; exact h)

/-! ### Numbers -/
theorem OpW.bin {op : BinOp} {t t' : TypeId} {x y : Operand} {a b v : Value} {w' : World} (hx : ev e x = a) (hy : ev e y = b) (hr : (do eqGuard op t x y a b; binOp op t a b).run P w = .ok v w') (h : K v w') : OpW P (.binOp op t x y t') ty e w K :=
  OpW.of_sem (s := do eqGuard op t x y (ev e x) (ev e y); binOp op t (ev e x) (ev e y)) rfl (by rw [hx, hy]; exact hr) h

theorem guard_int {op : BinOp} {t : TypeId} {x y : Operand} {k k' : IntKind} {a b : Int} : (eqGuard op t x y (.int k a) (.int k' b)).run P w = .ok () w := by
  unfold eqGuard; cases op <;> simp <;> rfl

theorem OpW.binInt {op : BinOp} {t t' : TypeId} {x y : Operand} {k k' : IntKind} {a b : Int} {v : Value} (hx : ev e x = .int k a) (hy : ev e y = .int k' b) (hr : (binOp op t (.int k a) (.int k' b)).run P w = .ok v w) (h : K v w) : OpW P (.binOp op t x y t') ty e w K :=
  OpW.bin hx hy (by rw [Sem.run_bind, guard_int]; exact hr) h

theorem OpW.add {t t' : TypeId} {x y : Operand} {k : IntKind} {a b : Int} (hx : ev e x = .int k a) (hy : ev e y = .int k b) (h : K (.int k (k.wrap (a + b))) w) : OpW P (.binOp .add t x y t') ty e w K :=
  OpW.binInt hx hy (by simp [binOp, Op.intArith]) h
theorem OpW.sub {t t' : TypeId} {x y : Operand} {k : IntKind} {a b : Int} (hx : ev e x = .int k a) (hy : ev e y = .int k b) (h : K (.int k (k.wrap (a - b))) w) : OpW P (.binOp .sub t x y t') ty e w K :=
  OpW.binInt hx hy (by simp [binOp, Op.intArith]) h
theorem OpW.mul {t t' : TypeId} {x y : Operand} {k : IntKind} {a b : Int} (hx : ev e x = .int k a) (hy : ev e y = .int k b) (h : K (.int k (k.wrap (a * b))) w) : OpW P (.binOp .mul t x y t') ty e w K :=
  OpW.binInt hx hy (by simp [binOp, Op.intArith]) h

def In64 (a : Int) : Prop := -9223372036854775808 ≤ a ∧ a ≤ 9223372036854775807
theorem wrap_i64 {a : Int} (h1 : -9223372036854775808 ≤ a) (h2 : a ≤ 9223372036854775807) : IntKind.i64.wrap a = a := by
  simp only [IntKind.wrap, IntKind.signed, IntKind.bits]
  simp
  omega
theorem wrap_u64 {a : Int} (h1 : 0 ≤ a) (h2 : a ≤ 18446744073709551615) : IntKind.u64.wrap a = a := by
  simp only [IntKind.wrap, IntKind.signed, IntKind.bits]
  simp
  omega
theorem wrap_u8 {a : Int} : IntKind.u8.wrap a = a % 256 := by
  simp [IntKind.wrap, IntKind.signed, IntKind.bits]

/-- The sum that stays an int: its form is the caller's ('c'). -/
theorem OpW.addI {t t' : TypeId} {x y : Operand} {a b : Int} (c : Int) (hx : ev e x = .int .i64 a) (hy : ev e y = .int .i64 b) (hc : a + b = c ∧ -9223372036854775808 ≤ c ∧ c ≤ 9223372036854775807) (h : K (.int .i64 c) w) : OpW P (.binOp .add t x y t') ty e w K :=
  OpW.add hx hy (by rw [hc.1, wrap_i64 hc.2.1 hc.2.2]; exact h)
theorem OpW.subI {t t' : TypeId} {x y : Operand} {a b : Int} (c : Int) (hx : ev e x = .int .i64 a) (hy : ev e y = .int .i64 b) (hc : a - b = c ∧ -9223372036854775808 ≤ c ∧ c ≤ 9223372036854775807) (h : K (.int .i64 c) w) : OpW P (.binOp .sub t x y t') ty e w K :=
  OpW.sub hx hy (by rw [hc.1, wrap_i64 hc.2.1 hc.2.2]; exact h)

theorem OpW.lss {t t' : TypeId} {x y : Operand} {k : IntKind} {a b : Int} (hx : ev e x = .int k a) (hy : ev e y = .int k b) (h : K (.bool (decide (a < b))) w) : OpW P (.binOp .lss t x y t') ty e w K :=
  OpW.binInt hx hy (by simp [binOp, Op.intCmp]) h
theorem OpW.leq {t t' : TypeId} {x y : Operand} {k : IntKind} {a b : Int} (hx : ev e x = .int k a) (hy : ev e y = .int k b) (h : K (.bool (decide (a ≤ b))) w) : OpW P (.binOp .leq t x y t') ty e w K :=
  OpW.binInt hx hy (by simp [binOp, Op.intCmp]) h
theorem OpW.gtr {t t' : TypeId} {x y : Operand} {k : IntKind} {a b : Int} (hx : ev e x = .int k a) (hy : ev e y = .int k b) (h : K (.bool (decide (b < a))) w) : OpW P (.binOp .gtr t x y t') ty e w K :=
  OpW.binInt hx hy (by simp [binOp, Op.intCmp]) h
theorem OpW.geq {t t' : TypeId} {x y : Operand} {k : IntKind} {a b : Int} (hx : ev e x = .int k a) (hy : ev e y = .int k b) (h : K (.bool (decide (b ≤ a))) w) : OpW P (.binOp .geq t x y t') ty e w K :=
  OpW.binInt hx hy (by simp [binOp, Op.intCmp]) h
theorem OpW.eqlI {t t' : TypeId} {x y : Operand} {k : IntKind} {a b : Int} (hx : ev e x = .int k a) (hy : ev e y = .int k b) (h : K (.bool (decide (a = b))) w) : OpW P (.binOp .eql t x y t') ty e w K :=
  OpW.binInt hx hy (v := .bool (decide (a = b))) (by simp [binOp, Op.intCmp]; rfl) h
theorem OpW.neqI {t t' : TypeId} {x y : Operand} {k : IntKind} {a b : Int} (hx : ev e x = .int k a) (hy : ev e y = .int k b) (h : K (.bool (decide (¬ a = b))) w) : OpW P (.binOp .neq t x y t') ty e w K :=
  OpW.binInt hx hy (v := .bool (decide (¬ a = b))) (by simp [binOp, Op.intCmp, bne]; rfl) h
theorem OpW.shr {t t' : TypeId} {x y : Operand} {k k' : IntKind} {a b : Int} (c : Int) (hx : ev e x = .int k a) (hy : ev e y = .int k' b) (hb : 0 ≤ b) (hc : a.fdiv (2 ^ (min b.toNat k.bits)) = c) (h : K (.int k c) w) : OpW P (.binOp .shr t x y t') ty e w K :=
  OpW.binInt hx hy (v := .int k c) (by simp only [binOp, Op.shift]; rw [if_neg (by omega), hc]; rfl) h
theorem OpW.shl {t t' : TypeId} {x y : Operand} {k k' : IntKind} {a b : Int} (c : Int) (hx : ev e x = .int k a) (hy : ev e y = .int k' b) (hb : 0 ≤ b) (hc : k.wrap (a * 2 ^ (min b.toNat k.bits)) = c) (h : K (.int k c) w) : OpW P (.binOp .shl t x y t') ty e w K :=
  OpW.binInt hx hy (v := .int k c) (by simp only [binOp, Op.shift]; rw [if_neg (by omega), hc]; rfl) h
theorem OpW.bits {op : BinOp} {t t' : TypeId} {x y : Operand} {k : IntKind} {a b : Int} (c : Int) (hx : ev e x = .int k a) (hy : ev e y = .int k b) (hr : (Op.intBits op k a b).run P w = .ok (.int k c) w) (ho : op = .and ∨ op = .or ∨ op = .xor) (h : K (.int k c) w) : OpW P (.binOp op t x y t') ty e w K :=
  OpW.binInt hx hy (v := .int k c) (by rcases ho with rfl | rfl | rfl <;> simpa [binOp] using hr) h
theorem OpW.quo {t t' : TypeId} {x y : Operand} {k : IntKind} {a b : Int} (c : Int) (hx : ev e x = .int k a) (hy : ev e y = .int k b) (hb : b ≠ 0) (hc : k.wrap (a.tdiv b) = c) (h : K (.int k c) w) : OpW P (.binOp .quo t x y t') ty e w K :=
  OpW.binInt hx hy (v := .int k c) (by simp only [binOp, Op.intDiv]; simp only [ne_eq, not_true_eq_false, if_false]; rw [if_neg hb, hc]; rfl) h
theorem OpW.rem {t t' : TypeId} {x y : Operand} {k : IntKind} {a b : Int} (c : Int) (hx : ev e x = .int k a) (hy : ev e y = .int k b) (hb : b ≠ 0) (hc : a.tmod b = c) (h : K (.int k c) w) : OpW P (.binOp .rem t x y t') ty e w K :=
  OpW.binInt hx hy (v := .int k c) (by simp only [binOp, Op.intDiv]; simp only [ne_eq, not_true_eq_false, if_false]; rw [if_neg hb, hc]; rfl) h
theorem OpW.conv {s d : TypeId} {k k' : IntKind} {x : Operand} {a : Int} [hs : IntT P s k'] [hd : IntT P d k] (c : Int) (hx : ev e x = .int k' a) (hc : k.wrap a = c) (h : K (.int k c) w) : OpW P (.convert s d x) ty e w K :=
  OpW.of_sem (s := convert s d (ev e x)) rfl (v := .int k c) (by rw [hx]; simp [convert, Sem.run_bind, hs.h, hd.h, Result.andThen, Conv.intToInt, hc]) h

/-! ### Bools, pointers, slices held against nil -/
theorem equal_bool {t : TypeId} {a b : Bool} [ht : BoolT P t] : (Op.equal t (.bool a) (.bool b)).run P w = .ok (a == b) w := by
  show (Op.equalIn (9999 + 1) t _ _).run P w = _
  rw [Op.equalIn, Sem.run_bind, ht.h]
  rfl
theorem equal_ptr {t el : TypeId} {A : Option Addr} [ht : PtrT P t el] : (Op.equal t (.pointer A) (.pointer none)).run P w = .ok A.isNone w := by
  show (Op.equalIn (9999 + 1) t _ _).run P w = _
  rw [Op.equalIn, Sem.run_bind, ht.h]
  cases A <;> rfl
theorem equal_slice {t el : TypeId} {A : Option Addr} {n c m c' : Nat} [ht : SliceT P t el] : (Op.equal t (.slice A n c) (.slice none m c')).run P w = .ok A.isNone w := by
  show (Op.equalIn (9999 + 1) t _ _).run P w = _
  rw [Op.equalIn, Sem.run_bind, ht.h]
  cases A <;> rfl
theorem guard_other {op : BinOp} {t : TypeId} {x y : Operand} {a b : Value} (h1 : ∀ cs, a ≠ .agg cs) (h2 : a ≠ .nilIface) : (eqGuard op t x y a b).run P w = .ok () w := by
  unfold eqGuard
  cases a <;> first
    | exact absurd rfl h2
    | exact absurd rfl (h1 _)
    | (cases op <;> cases b <;> simp <;> rfl)

theorem OpW.eqlB {t t' : TypeId} {x y : Operand} {a b : Bool} [ht : BoolT P t] (hx : ev e x = .bool a) (hy : ev e y = .bool b) (h : K (.bool (a == b)) w) : OpW P (.binOp .eql t x y t') ty e w K :=
  OpW.bin hx hy (by rw [Sem.run_bind, guard_other (by simp) (by simp)]; show Sem.run P (do pure (Value.bool (← Op.equal t (.bool a) (.bool b)))) w = _; rw [Sem.run_bind, equal_bool]; rfl) h
theorem OpW.neqB {t t' : TypeId} {x y : Operand} {a b : Bool} [ht : BoolT P t] (hx : ev e x = .bool a) (hy : ev e y = .bool b) (h : K (.bool (!(a == b))) w) : OpW P (.binOp .neq t x y t') ty e w K :=
  OpW.bin hx hy (by rw [Sem.run_bind, guard_other (by simp) (by simp)]; show Sem.run P (do pure (Value.bool (!(← Op.equal t (.bool a) (.bool b))))) w = _; rw [Sem.run_bind, equal_bool]; rfl) h
theorem OpW.eqlP {t t' el : TypeId} {x y : Operand} {A : Option Addr} [ht : PtrT P t el] (hx : ev e x = .pointer A) (hy : ev e y = .pointer none) (h : K (.bool A.isNone) w) : OpW P (.binOp .eql t x y t') ty e w K :=
  OpW.bin hx hy (by rw [Sem.run_bind, guard_other (by simp) (by simp)]; show Sem.run P (do pure (Value.bool (← Op.equal t (.pointer A) (.pointer none)))) w = _; rw [Sem.run_bind, equal_ptr]; rfl) h
theorem OpW.neqP {t t' el : TypeId} {x y : Operand} {A : Option Addr} [ht : PtrT P t el] (hx : ev e x = .pointer A) (hy : ev e y = .pointer none) (h : K (.bool (!A.isNone)) w) : OpW P (.binOp .neq t x y t') ty e w K :=
  OpW.bin hx hy (by rw [Sem.run_bind, guard_other (by simp) (by simp)]; show Sem.run P (do pure (Value.bool (!(← Op.equal t (.pointer A) (.pointer none))))) w = _; rw [Sem.run_bind, equal_ptr]; rfl) h
theorem OpW.eqlS {t t' el : TypeId} {x y : Operand} {A : Option Addr} {n c m c' : Nat} [ht : SliceT P t el] (hx : ev e x = .slice A n c) (hy : ev e y = .slice none m c') (h : K (.bool A.isNone) w) : OpW P (.binOp .eql t x y t') ty e w K :=
  OpW.bin hx hy (by rw [Sem.run_bind, guard_other (by simp) (by simp)]; show Sem.run P (do pure (Value.bool (← Op.equal t (.slice A n c) (.slice none m c')))) w = _; rw [Sem.run_bind, equal_slice]; rfl) h

/-! ### Builtins without memory -/
theorem OpW.builtin {b : Builtin} {args : Array Operand} {ats : Array TypeId} {s : Sem Value} {v : Value} {w' : World}
    (hb : ∀ cs, builtin b ats ty cs (args.map (ev e)) = (do pure (.value (← s)))) (hr : s.run P w = .ok v w') (h : K v w') : OpW P (.call ⟨.builtin b, args, ats⟩) ty e w K :=
  OpW.of_run (v := v) (w' := w') (by simp only [execOp, resolve, invoke, pure_bind]; rw [hb]; simp [Sem.run_bind, hr, Result.andThen]) h
theorem OpW.len {x : Operand} {t el : TypeId} {A : Option Addr} {n c : Nat} [ht : SliceT P t el] (hx : ev e x = .slice A n c) (h : K (.int .i64 (n : Int)) w) : OpW P (.call ⟨.builtin .len, #[x], #[t]⟩) ty e w K :=
  OpW.builtin (s := Builtin.len_ #[t] ty #[ev e x]) (fun _ => by simp [Go.builtin]) (by rw [hx]; simp [Builtin.len_, Sem.run_bind, ht.h, Result.andThen, goInt]) h
theorem OpW.lenStr {x : Operand} {t : TypeId} {s : ByteArray} [ht : StrT P t] (hx : ev e x = .string s) (h : K (.int .i64 (s.size : Int)) w) : OpW P (.call ⟨.builtin .len, #[x], #[t]⟩) ty e w K :=
  OpW.builtin (s := Builtin.len_ #[t] ty #[ev e x]) (fun _ => by simp [Go.builtin]) (by rw [hx]; simp [Builtin.len_, Sem.run_bind, ht.h, Result.andThen, goInt]) h
theorem OpW.cap {x : Operand} {t el : TypeId} {A : Option Addr} {n c : Nat} [ht : SliceT P t el] (hx : ev e x = .slice A n c) (h : K (.int .i64 (c : Int)) w) : OpW P (.call ⟨.builtin .cap, #[x], #[t]⟩) ty e w K :=
  OpW.builtin (s := Builtin.cap_ #[t] ty #[ev e x]) (fun _ => by simp [Go.builtin]) (by rw [hx]; simp [Builtin.cap_, Sem.run_bind, ht.h, Result.andThen, goInt]) h
theorem OpW.min {x y : Operand} {ats : Array TypeId} {k k' : IntKind} {a b : Int} (hx : ev e x = .int k a) (hy : ev e y = .int k' b) (h : K (.int k (if b < a then b else a)) w) : OpW P (.call ⟨.builtin .min, #[x, y], ats⟩) ty e w K :=
  OpW.builtin (s := Builtin.min_ ats ty #[ev e x, ev e y]) (fun _ => by simp [Go.builtin]) (by rw [hx, hy]; simp [Builtin.min_, Builtin.min2]) h
theorem OpW.max {x y : Operand} {ats : Array TypeId} {k k' : IntKind} {a b : Int} (hx : ev e x = .int k a) (hy : ev e y = .int k' b) (h : K (.int k (if b > a then b else a)) w) : OpW P (.call ⟨.builtin .max, #[x, y], ats⟩) ty e w K :=
  OpW.builtin (s := Builtin.max_ ats ty #[ev e x, ev e y]) (fun _ => by simp [Go.builtin]) (by rw [hx, hy]; simp [Builtin.max_, Builtin.max2]) h

/-! ### Calls -/
theorem OpW.call {f : FuncId} {args : Array Operand} {ats : Array TypeId} {vs : List Value} [hf : CallT P f] (h : Ret P f vs.toArray w K) (hv : args.toList.map (ev e) = vs) : OpW P (.call ⟨.value (.func f), args, ats⟩) ty e w K := by
  have hv' : args.map (ev e) = vs.toArray := by subst hv; cases args; simp
  unfold OpW
  have : (execOp (ev e) ⟨none, .call ⟨.value (.func f), args, ats⟩, ty, "", #[], none⟩).run P w = .ok (.enter f vs.toArray) w := by
    simp [execOp, resolve, ev, Deferred.ofValue, invoke, hf.h, hv']
  rw [this]
  exact h
theorem OpW.callFn {x : Operand} {f : FuncId} {first cap : Array Value} {args : Array Operand} {ats : Array TypeId} {vs : List Value} [hf : CallT P f] (hx : ev e x = .func (.func f) first cap) (h : Ret P f vs.toArray w K) (hv : first.toList ++ args.toList.map (ev e) ++ cap.toList = vs) : OpW P (.call ⟨.value x, args, ats⟩) ty e w K := by
  have hv' : first ++ (args.map (ev e) ++ cap) = vs.toArray := by subst hv; cases args; cases first; cases cap; simp
  unfold OpW
  have : (execOp (ev e) ⟨none, .call ⟨.value x, args, ats⟩, ty, "", #[], none⟩).run P w = .ok (.enter f vs.toArray) w := by
    simp [execOp, resolve, hx, Deferred.ofValue, invoke, hf.h, hv']
  rw [this]
  exact h
theorem OpW.makeFunc {fn : Fn} {first cap : Array Operand} {vs us : Array Value} (h1 : first.map (ev e) = vs) (h2 : cap.map (ev e) = us) (h : K (.func fn vs us) w) : OpW P (.makeFunc fn first cap) ty e w K :=
  OpW.of_sem (s := Instr.makeFunc fn (first.map (ev e)) (cap.map (ev e))) rfl (by rw [h1, h2]; simp [Instr.makeFunc]) h
end
end B
end Go.Proofs.Ytlofcomnhecgfaa
/- Rules of the walk for the operations that touch memory: what is read, made, written. No conditions. -/
namespace Go.Proofs.Ytlofcomnhecgfaa
namespace B
set_option linter.unusedVariables false
set_option linter.unusedSimpArgs false

/-! ### What has changed -/
/-- Only blocks of S (and new ones) have changed. -/
structure Chg (S : Nat → Prop) (w w' : World) : Prop where
  os : w'.os = w.os
  tape : w'.tape = w.tape
  output : w'.output = w.output
  size : w.heap.size ≤ w'.heap.size
  block : ∀ k, k < w.heap.size → ¬ S k → w'.heap[k]? = w.heap[k]?
def No : Nat → Prop := fun _ => False
abbrev Grow (w w' : World) : Prop := Chg No w w'

theorem Chg.refl (S : Nat → Prop) (w : World) : Chg S w w := ⟨rfl, rfl, rfl, Nat.le_refl _, fun _ _ _ => rfl⟩
theorem Chg.mono {S T : Nat → Prop} {w w' : World} (h : Chg S w w') (hs : ∀ k, k < w.heap.size → S k → T k) : Chg T w w' :=
  ⟨h.os, h.tape, h.output, h.size, fun k hk hn => h.block k hk fun hS => hn (hs k hk hS)⟩
theorem Chg.to {S : Nat → Prop} {w w' : World} (h : Grow w w') : Chg S w w' := h.mono fun _ _ hf => hf.elim
theorem Chg.trans {S T : Nat → Prop} {a b c : World} (h : Chg S a b) (k : Chg T b c) (hs : ∀ i, i < a.heap.size → T i → S i) : Chg S a c :=
  ⟨k.os.trans h.os, k.tape.trans h.tape, k.output.trans h.output, Nat.le_trans h.size k.size,
    fun i hi hn => (k.block i (Nat.lt_of_lt_of_le hi h.size) fun ht => hn (hs i hi ht)).trans (h.block i hi hn)⟩
theorem Chg.andThen {S : Nat → Prop} {a b c : World} (h : Chg S a b) (k : Chg S b c) : Chg S a c := h.trans k fun _ _ h => h
theorem Grow.then {a b c : World} (h : Grow a b) (k : Grow b c) : Grow a c := h.trans k fun _ _ h => h
theorem Chg.grow {S : Nat → Prop} {a b c : World} (h : Chg S a b) (k : Grow b c) : Chg S a c := h.trans k fun _ _ h => h.elim
theorem Grow.chg {S : Nat → Prop} {a b c : World} (h : Grow a b) (k : Chg S b c) : Chg S a c := Chg.trans (Chg.to h) k fun _ _ h => h
theorem Chg.new {S : Nat → Prop} {a b : World} (h : Chg S a b) (hs : ∀ k, k < a.heap.size → ¬ S k) : Grow a b := h.mono fun k hk hS => (hs k hk hS).elim
theorem Chg.heap {S : Nat → Prop} {w w' : World} (h : Chg S w w') {k : Nat} {o : Obj} (hb : w.heap[k]? = some o) (hn : ¬ S k) : w'.heap[k]? = some o :=
  (h.block k (Array.getElem?_eq_some_iff.1 hb).1 hn).trans hb
theorem Grow.heap {w w' : World} (h : Grow w w') {k : Nat} {o : Obj} (hb : w.heap[k]? = some o) : w'.heap[k]? = some o := Chg.heap h hb fun hf => hf
theorem Grow.below {w w' : World} (h : Grow w w') : Go.RowKit.Below w.heap.size w w' := ⟨h.os, h.tape, h.output, h.size, fun k hk => h.block k hk fun hf => hf⟩
theorem Chg.drew {S : Nat → Prop} {a b : World} (h : Chg S a b) : Chg S a { b with drawn := b.drawn + 1 } := ⟨h.os, h.tape, h.output, h.size, h.block⟩

theorem lt_of_heap {w : World} {k : Nat} {o : Obj} (hb : w.heap[k]? = some o) : k < w.heap.size := (Array.getElem?_eq_some_iff.1 hb).1

/-! ### Blocks -/
/-- A block of cells, none of them frozen. -/
def Blk (w : World) (b : Nat) (c : Array Value) (E : TypeId) : Prop := w.heap[b]? = some (.cells c E (0, 0))
theorem Blk.lt {w : World} {b : Nat} {c : Array Value} {E : TypeId} (h : Blk w b c E) : b < w.heap.size := lt_of_heap h
theorem Blk.keep {S : Nat → Prop} {w w' : World} {b : Nat} {c : Array Value} {E : TypeId} (h : Blk w b c E) (hc : Chg S w w') (hn : ¬ S b) : Blk w' b c E := hc.heap h hn
theorem Blk.grow {w w' : World} {b : Nat} {c : Array Value} {E : TypeId} (h : Blk w b c E) (hc : Grow w w') : Blk w' b c E := Grow.heap hc h
theorem Blk.cell {w : World} {b : Nat} {c : Array Value} {E : TypeId} (h : Blk w b c E) {o : Nat} {v : Value} (hi : c[o]? = some v) : w.cell? ⟨b, o, none⟩ = some v := by
  unfold Blk at h; simp [World.cell?, h, hi]
theorem Blk.free {w : World} {b : Nat} {c : Array Value} {E : TypeId} (h : Blk w b c E) (o : Nat) (s : Option Nat) : w.frozen? ⟨b, o, s⟩ = false := by
  unfold Blk at h; simp [World.frozen?, h]

/-- Cells from an address on. -/
def Sl (w : World) (A : Option Addr) (cs : List Value) : Prop := ∀ i v, cs[i]? = some v → ∃ a, A = some a ∧ a.spot = none ∧ w.cell? ⟨a.block, a.off + i, none⟩ = some v
theorem Sl.keep {S : Nat → Prop} {w w' : World} {A : Option Addr} {cs : List Value} (h : Sl w A cs) (hc : Chg S w w') (hn : ∀ a, A = some a → ¬ S a.block) : Sl w' A cs := by
  intro i v hi
  obtain ⟨a, h1, h2, h3⟩ := h i v hi
  refine ⟨a, h1, h2, ?_⟩
  rw [← h3]
  refine World.cell?_of_block (hc.block _ ?_ (hn a h1))
  exact World.block_lt_of_cell? w _ h3
theorem Sl.grow {w w' : World} {A : Option Addr} {cs : List Value} (h : Sl w A cs) (hc : Grow w w') : Sl w' A cs := h.keep hc fun _ _ hf => hf
theorem Sl.nil (w : World) (A : Option Addr) : Sl w A [] := fun i v h => by simp at h
theorem Sl.take {w : World} {A : Option Addr} {cs : List Value} (h : Sl w A cs) (n : Nat) : Sl w A (cs.take n) := by
  intro i v hi
  rw [List.getElem?_take] at hi
  split at hi
  · exact h i v hi
  · cases hi

/-- The address of the i-th cell. -/
def at_ (A : Option Addr) (i : Nat) : Option Addr := A.map fun a => ⟨a.block, a.off + i, none⟩
theorem Sl.drop {w : World} {A : Option Addr} {cs : List Value} (h : Sl w A cs) (n : Nat) : Sl w (at_ A n) (cs.drop n) := by
  intro i v hi
  rw [List.getElem?_drop] at hi
  obtain ⟨a, h1, h2, h3⟩ := h _ v hi
  exact ⟨_, by rw [at_, h1]; rfl, rfl, by simpa [Nat.add_assoc] using h3⟩
theorem Sl.drop' {w : World} {A : Option Addr} {cs : List Value} (h : Sl w A cs) (n : Nat) (hA : ∀ a, A = some a → a.spot = none) (B : Option Addr) (hB : B = A ∧ cs.length ≤ n ∨ B = at_ A n) : Sl w B (cs.drop n) := by
  rcases hB with ⟨rfl, hl⟩ | rfl
  · rw [List.drop_of_length_le hl]; exact Sl.nil _ _
  · exact h.drop n
theorem Blk.sl {w : World} {b : Nat} {c : Array Value} {E : TypeId} (h : Blk w b c E) (o n : Nat) : Sl w (some ⟨b, o, none⟩) ((c.toList.drop o).take n) := by
  intro i v hi
  rw [List.getElem?_take] at hi
  split at hi
  · rw [List.getElem?_drop] at hi
    exact ⟨_, rfl, rfl, h.cell (by simpa using hi)⟩
  · cases hi
theorem Blk.slAll {w : World} {b : Nat} {c : Array Value} {E : TypeId} (h : Blk w b c E) (cs : List Value) (hc : c.toList.take cs.length = cs) : Sl w (some ⟨b, 0, none⟩) cs := by
  have := h.sl 0 cs.length
  rwa [List.drop_zero, hc] at this

/-! ### A slice that nobody else writes -/
def Own (w : World) (A : Option Addr) (E : TypeId) (k n cap : Nat) (xs : List Value) (Z : Nat → Prop) : Prop :=
  xs.length = n * k ∧ ((A = none ∧ n = 0 ∧ cap = 0) ∨
    ∃ g cur, A = some ⟨g, 0, none⟩ ∧ Z g ∧ w.heap[g]? = some (.cells cur E (0, 0)) ∧ n ≤ cap ∧ cap ≤ maxLen ∧ cap * k ≤ cur.size ∧ cur.toList.take (n * k) = xs)
section own
variable {S : Nat → Prop} {w w' : World} {A : Option Addr} {E : TypeId} {k n cap : Nat} {xs : List Value} {Z : Nat → Prop}
theorem Own.keep (h : Own w A E k n cap xs Z) (hc : Chg S w w') (hn : ∀ b, Z b → ¬ S b) : Own w' A E k n cap xs Z := by
  refine ⟨h.1, h.2.imp id ?_⟩
  rintro ⟨g, cur, h1, h2, h3, h4⟩
  exact ⟨g, cur, h1, h2, hc.heap h3 (hn g h2), h4⟩
/-- The block alone matters. -/
theorem Own.keep' (h : Own w A E k n cap xs Z) (hc : Chg S w w') (hn : ∀ a, A = some a → ¬ S a.block) : Own w' A E k n cap xs Z := by
  refine ⟨h.1, h.2.imp id ?_⟩
  rintro ⟨g, cur, h1, h2, h3, h4⟩
  exact ⟨g, cur, h1, h2, hc.heap h3 (hn _ h1), h4⟩
theorem Own.grow (h : Own w A E k n cap xs Z) (hc : Grow w w') : Own w' A E k n cap xs Z := h.keep hc fun _ _ hf => hf
theorem Own.mono {Z' : Nat → Prop} (h : Own w A E k n cap xs Z) (hz : ∀ g, Z g → Z' g) : Own w A E k n cap xs Z' := by
  refine ⟨h.1, h.2.imp id ?_⟩
  rintro ⟨g, cur, h1, h2, h3⟩
  exact ⟨g, cur, h1, hz _ h2, h3⟩
theorem Own.zone {Z' : Nat → Prop} (h : Own w A E k n cap xs Z) (hz : ∀ a, A = some a → Z' a.block) : Own w A E k n cap xs Z' := by
  refine ⟨h.1, h.2.imp id ?_⟩
  rintro ⟨g, cur, h1, h2, h3⟩
  exact ⟨g, cur, h1, hz _ h1, h3⟩
theorem Own.in_ (h : Own w A E k n cap xs Z) {a : Addr} (ha : A = some a) : Z a.block ∧ a.block < w.heap.size := by
  rcases h.2 with ⟨h1, _⟩ | ⟨g, cur, h1, h2, h3, _⟩
  · rw [h1] at ha; cases ha
  · rw [h1] at ha; cases ha; exact ⟨h2, lt_of_heap h3⟩
theorem Own.le (h : Own w A E k n cap xs Z) : n ≤ cap := by
  rcases h.2 with ⟨h1, h2, h3⟩ | ⟨g, cur, h1, h2, h3, h4, _⟩ <;> omega
theorem Own.cap_le (h : Own w A E k n cap xs Z) : cap ≤ maxLen := by
  rcases h.2 with ⟨h1, h2, h3⟩ | ⟨g, cur, h1, h2, h3, h4, h5, _⟩
  · rw [h3]; exact Nat.zero_le _
  · exact h5
theorem Own.sl (h : Own w A E k n cap xs Z) : Sl w A xs := by
  rcases h.2 with ⟨h1, h2, h3⟩ | ⟨g, cur, h1, h2, h3, h4, h5, h6, h7⟩
  · have : xs = [] := List.eq_nil_of_length_eq_zero (by rw [h.1, h2]; simp)
    rw [this]; exact Sl.nil _ _
  · rw [h1]
    refine Blk.slAll (E := E) h3 xs ?_
    rw [h.1]; exact h7
theorem Own.nil (w : World) (E : TypeId) (k : Nat) (Z : Nat → Prop) : Own w none E k 0 0 [] Z := ⟨by simp, .inl ⟨rfl, rfl, rfl⟩⟩
theorem Own.isNone (h : Own w A E k n cap xs Z) (hA : A = none) : n = 0 ∧ cap = 0 := by
  rcases h.2 with ⟨h1, h2, h3⟩ | ⟨g, cur, h1, _⟩
  · exact ⟨h2, h3⟩
  · rw [hA] at h1; cases h1
end own

def fresh (w : World) : Nat → Prop := fun b => w.heap.size ≤ b

/-- One class for what is appended to and made. -/
class ElemT (P : Program) (t : TypeId) (E : outParam TypeId) (k : outParam Nat) (bytes : outParam Nat) (zero : outParam Value) : Prop where
  u : P.underlying t = some (.slice E)
  i : ∃ i, P.info? E = some i ∧ i.zero = some zero ∧ i.size = k ∧ i.bytes = bytes ∧ zero.cells.size = k ∧ 0 < k

section
variable {P : Program} {e : Env} {w : World} {K : Value → World → Prop} {ty : TypeId}

theorem run_under {t : TypeId} {d : TypeDesc} (h : P.underlying t = some d) : (underlying t).run P w = .ok d w := by simp [underlying, h]
theorem ElemT.slice {t E k by_ : Nat} {z : Value} (h : ElemT P t E k by_ z) : (underlying t).run P w = .ok (.slice E) w := run_under h.u
theorem ElemT.size {t E k by_ : Nat} {z : Value} (h : ElemT P t E k by_ z) : (sizeOf E).run P w = .ok k w := by
  obtain ⟨i, h1, h2, h3, _⟩ := h.i
  simp [sizeOf, typeInfo, h1, h3]

/-! ### Loads, stores, addresses -/
theorem run_load {a : Addr} {v : Value} (h : w.cell? a = some v) : (load a).run P w = .ok v w := by simp [load, Sem.run, h]
theorem OpW.load {t : TypeId} {x : Operand} {b o : Nat} {c : Array Value} {E : TypeId} {v : Value} [ht : Plain P t] (hx : ev e x = .pointer (some ⟨b, o, none⟩)) (hb : Blk w b c E) (hi : c[o]? = some v) (h : K v w) : OpW P (.load t x) ty e w K :=
  OpW.of_sem (s := Instr.loadAt t (ev e x)) rfl (by rw [hx]; simp [Instr.loadAt, Instr.sureAddr, loadVar, Sem.run_bind, ht.h, Result.andThen, run_load (hb.cell hi)]) h
theorem OpW.loadS {t : TypeId} {x : Operand} {A : Option Addr} {i : Nat} {cs : List Value} {v : Value} [ht : Plain P t] (hx : ev e x = .pointer (at_ A i)) (hs : Sl w A cs) (hi : cs[i]? = some v) (h : K v w) : OpW P (.load t x) ty e w K := by
  obtain ⟨a, h1, h2, h3⟩ := hs i v hi
  exact OpW.of_sem (s := Instr.loadAt t (ev e x)) rfl (by rw [hx, h1]; simp [at_, Instr.loadAt, Instr.sureAddr, loadVar, Sem.run_bind, ht.h, Result.andThen, run_load h3]) h

theorem run_cells {a : Addr} (n : Nat) (vs : List Value) (hn : vs.length = n) (h : ∀ i v, vs[i]? = some v → w.cell? (a.add i) = some v) : (loadCells a n).run P w = .ok vs.toArray w := by
  subst hn
  exact run_loadCells_list w a vs h
theorem add_at (b o i : Nat) : (⟨b, o, none⟩ : Addr).add i = ⟨b, o + i, none⟩ := by unfold Addr.add; split <;> simp_all
theorem OpW.loadAgg {t : TypeId} {x : Operand} {b o n : Nat} {c : Array Value} {E : TypeId} [ht : AggT P t n] (vs : List Value) (hx : ev e x = .pointer (some ⟨b, o, none⟩)) (hb : Blk w b c E) (hv : (c.toList.drop o).take n = vs) (hn : vs.length = n) (h : K (.agg vs.toArray) w) : OpW P (.load t x) ty e w K := by
  have hl : (loadCells ⟨b, o, none⟩ n).run P w = .ok vs.toArray w := run_cells n vs hn fun i v hi => by
    rw [add_at]
    rw [← hv, List.getElem?_take] at hi
    split at hi
    · rw [List.getElem?_drop] at hi; exact hb.cell (by simpa using hi)
    · cases hi
  exact OpW.of_sem (s := Instr.loadAt t (ev e x)) rfl (by rw [hx]; simp [Instr.loadAt, Instr.sureAddr, loadVar, Sem.run_bind, ht.h, ht.s, Result.andThen, hl]) h
theorem OpW.loadAggS {t : TypeId} {x : Operand} {A : Option Addr} {i n : Nat} {cs : List Value} [ht : AggT P t n] (vs : List Value) (hx : ev e x = .pointer (at_ A i)) (hs : Sl w A cs) (hv : (cs.drop i).take n = vs) (hn : vs.length = n) (h0 : 0 < n) (h : K (.agg vs.toArray) w) : OpW P (.load t x) ty e w K := by
  have key : ∀ j v, vs[j]? = some v → ∃ a, A = some a ∧ a.spot = none ∧ w.cell? ⟨a.block, a.off + (i + j), none⟩ = some v := by
    intro j v hj
    rw [← hv, List.getElem?_take] at hj
    split at hj
    · rw [List.getElem?_drop] at hj; exact hs _ v hj
    · cases hj
  obtain ⟨a, h1, h2, _⟩ := key 0 vs[0] (by simp)
  have hl : (loadCells ⟨a.block, a.off + i, none⟩ n).run P w = .ok vs.toArray w := run_cells n vs hn fun j v hj => by
    rw [add_at]
    obtain ⟨a', g1, g2, g3⟩ := key j v hj
    rw [h1] at g1; cases g1
    rw [Nat.add_assoc]; exact g3
  exact OpW.of_sem (s := Instr.loadAt t (ev e x)) rfl (by rw [hx, h1]; simp [at_, Instr.loadAt, Instr.sureAddr, loadVar, Sem.run_bind, ht.h, ht.s, Result.andThen, hl]) h

theorem OpW.fieldAddr {s : TypeId} {x : Operand} {i b o off : Nat} [hf : FieldT P s i off] (hx : ev e x = .pointer (some ⟨b, o, none⟩)) (h : K (.pointer (some ⟨b, o + off, none⟩)) w) : OpW P (.fieldAddr s x i) ty e w K := by
  obtain ⟨fs, f, sz, h1, h2, h3, h4, h5⟩ := hf.h
  exact OpW.of_sem (s := Instr.fieldAt s (ev e x) i) rfl (by rw [hx]; simp [Instr.fieldAt, Instr.sureAddr, fieldPlace, Sem.run_bind, h1, h2, h4, h5, Result.andThen, add_at, h3]) h
theorem OpW.fieldAddrS {s : TypeId} {x : Operand} {A : Option Addr} {i j off : Nat} [hf : FieldT P s i off] (hx : ev e x = .pointer (at_ A j)) (hA : A ≠ none) (h : K (.pointer (at_ A (j + off))) w) : OpW P (.fieldAddr s x i) ty e w K := by
  obtain ⟨fs, f, sz, h1, h2, h3, h4, h5⟩ := hf.h
  cases A with
  | none => exact absurd rfl hA
  | some a => exact OpW.of_sem (s := Instr.fieldAt s (ev e x) i) rfl (by rw [hx]; simp [at_, Instr.fieldAt, Instr.sureAddr, fieldPlace, Sem.run_bind, h1, h2, h4, h5, Result.andThen, add_at, h3, Nat.add_assoc]) h

/-- &xs[i]. -/
theorem OpW.indexAddr {t E k by_ : Nat} {z : Value} {x y : Operand} {A : Option Addr} {n c : Nat} {kk : IntKind} {j : Int} (i : Nat) [ht : ElemT P t E k by_ z] (hx : ev e x = .slice A n c) (hy : ev e y = .int kk j) (hj : j = (i : Int)) (hi : i < n) (hA : A ≠ none) (hsp : ∀ a, A = some a → a.spot = none) (h : K (.pointer (at_ A (i * k))) w) : OpW P (.indexAddr t x y) ty e w K := by
  cases A with
  | none => exact absurd rfl hA
  | some a =>
    obtain ⟨b, o, s⟩ := a
    have hs := hsp _ rfl
    simp only at hs
    subst hs
    refine OpW.of_sem (s := Instr.indexAt t (ev e x) (ev e y)) rfl (v := .pointer (at_ (some ⟨b, o, none⟩) (i * k))) (w' := w) ?_ h
    rw [hx, hy, hj]
    have hlt : (0 : Int) ≤ (i : Int) ∧ (i : Int) < (n : Int) := by omega
    simp only [Instr.indexAt, asIntOf, Sem.run_bind, Sem.run_pure, Result.andThen_ok, ht.slice, pure_bind]
    rw [if_pos hlt]
    simp [Sem.run_bind, ht.size, Result.andThen, add_at, at_]

/-- s[i] of a text. -/
theorem OpW.indexStr {t : TypeId} {x y : Operand} {s : ByteArray} {kk : IntKind} {j : Int} (i : Nat) (u : UInt8) [ht : StrT P t] (hx : ev e x = .string s) (hy : ev e y = .int kk j) (hj : j = (i : Int)) (hi : s.data.toList[i]? = some u) (h : K (.int .u8 (u.toNat : Int)) w) : OpW P (.index t x y) ty e w K := by
  refine OpW.of_sem (s := Instr.index t (ev e x) (ev e y)) rfl (v := .int .u8 (u.toNat : Int)) (w' := w) ?_ h
  rw [hx, hy, hj]
  have : s[i]? = some u := by
    obtain ⟨hl, hv⟩ := List.getElem?_eq_some_iff.1 hi
    rw [getElem?_pos s i (by simpa using hl)]
    exact congrArg some hv
  simp [Instr.index, asIntOf, Sem.run_bind, ht.h, Result.andThen, this]

/-! ### New memory -/
/-- A new block. -/
structure New (w w' : World) (b : Nat) (o : Obj) : Prop where
  grow : Grow w w'
  at_ : w'.heap[b]? = some o
  fresh : w.heap.size ≤ b
theorem New.push (w : World) (o : Obj) : New w { w with heap := w.heap.push o } w.heap.size o :=
  ⟨⟨rfl, rfl, rfl, by simp, fun k hk _ => by show (w.heap.push o)[k]? = _; rw [Array.getElem?_push, if_neg (by omega)]⟩, by simp, Nat.le_refl _⟩
theorem New.blk {w w' : World} {b : Nat} {c : Array Value} {E : TypeId} (h : New w w' b (.cells c E)) : Blk w' b c E := h.at_

theorem OpW.alloc {t : TypeId} {z : Value} [ht : ZeroT P t z] (h : ∀ b w', New w w' b (.cells z.cells t) → K (.pointer (some ⟨b, 0, none⟩)) w') : OpW P (.alloc t) ty e w K :=
  OpW.of_sem (s := Instr.alloc t true (.tuple #[])) rfl (v := .pointer (some ⟨w.heap.size, 0, none⟩)) (w' := { w with heap := w.heap.push (.cells z.cells t) })
    (by simp only [Instr.alloc, Sem.run_bind, ht.h, Result.andThen]; simp [newVar, newRow, newObj, Sem.run_bind, Sem.run, Result.andThen]) (h _ _ (New.push _ _))
theorem OpW.box {t : TypeId} {x : Operand} {v : Value} (hx : ev e x = v) (h : ∀ b w', New w w' b (.cells v.cells t) → K (.pointer (some ⟨b, 0, none⟩)) w') : OpW P (.box t x) ty e w K :=
  OpW.of_sem (s := Instr.box t (ev e x)) rfl (v := .pointer (some ⟨w.heap.size, 0, none⟩)) (w' := { w with heap := w.heap.push (.cells v.cells t) })
    (by rw [hx]; simp [Instr.box, newVar, newRow, newObj, Sem.run_bind, Sem.run, Result.andThen]) (h _ _ (New.push _ _))

/-! ### Stores -/
structure Put (w w' : World) (b : Nat) : Prop where
  chg : Chg (· = b) w w'
  size : w'.heap.size = w.heap.size
theorem set_blk {b o : Nat} {c : Array Value} {E : TypeId} (hb : Blk w b c E) (v : Value) : Blk (w.setCell ⟨b, o, none⟩ v) b (c.setIfInBounds o v) E := by
  unfold Blk at *
  simp [World.setCell, Array.getElem?_modify, hb]
theorem set_put {b o : Nat} (v : Value) : Put w (w.setCell ⟨b, o, none⟩ v) b :=
  ⟨⟨rfl, rfl, rfl, by simp [World.setCell], fun k hk hn => Go.RowKit.Below.heap_setCell w ⟨b, o, none⟩ v k hn⟩, by simp [World.setCell]⟩
theorem run_store1 {b o : Nat} {c : Array Value} {E : TypeId} {v : Value} (hb : Blk w b c E) (ho : o < c.size) (hv : v.oneCell' = true) : (store ⟨b, o, none⟩ v).run P w = .ok () (w.setCell ⟨b, o, none⟩ v) := by
  have hc : w.cell? ⟨b, o, none⟩ = some c[o] := hb.cell (by simp [ho])
  have hf := hb.free o none
  cases v <;> first
    | exact Bool.noConfusion hv
    | simp [Go.store, Sem.run, hc, hf]
theorem OpW.store {t : TypeId} {x y : Operand} {b o : Nat} {c c' : Array Value} {E : TypeId} {v : Value} [ht : SizeT P t 1] (hx : ev e x = .pointer (some ⟨b, o, none⟩)) (hy : ev e y = v) (hv : v.oneCell' = true) (hb : Blk w b c E) (ho : Nat.blt o c.size = true) (hc : c.setIfInBounds o v = c')
    (h : ∀ w', Put w w' b → Blk w' b c' E → K undef w') : OpW P (.store t x y) ty e w K := by
  refine OpW.of_unit (s := Instr.storeAt t (ev e x) (ev e y)) rfl (w' := w.setCell ⟨b, o, none⟩ v) ?_ (h _ (set_put v) (hc ▸ set_blk hb v))
  have hs := run_store1 (P := P) hb (blt_lt ho) hv
  have h1 : v.cells = #[v] := by cases v <;> first | rfl | exact Bool.noConfusion hv
  rw [hx, hy]
  simp [Instr.storeAt, Instr.sureAddr, storeVar, Sem.run_bind, ht.h, Result.andThen, h1, storeCells, Addr.add, hs]
end
end B
end Go.Proofs.Ytlofcomnhecgfaa
/- Rules of the walk: append, make, slices of slices, texts and bytes. No conditions. -/
namespace Go.Proofs.Ytlofcomnhecgfaa
namespace B
set_option linter.unusedVariables false
set_option linter.unusedSimpArgs false

section
variable {P : Program} {e : Env} {w : World} {K : Value → World → Prop} {ty : TypeId}

/-! ### append -/
theorem Sl.read {w : World} {A : Option Addr} {cs : List Value} (h : Sl w A cs) {a : Addr} (ha : A = some a) : ∀ j v, cs[j]? = some v → w.cell? (a.add j) = some v := by
  intro j v hj
  obtain ⟨a', h1, h2, h3⟩ := h j v hj
  rw [ha] at h1; cases h1
  obtain ⟨b, o, s⟩ := a
  simp only at h2
  subst h2
  rw [add_at]
  exact h3

theorem run_app_none {t E k by_ : Nat} {z : Value} (ht : ElemT P t E k by_ z) (A B : Option Addr) (n cap c : Nat) (h : n ≤ cap) : (Builtin.append_ #[t, t] ty #[.slice A n cap, .slice B 0 c]).run P w = .ok (.slice A n cap) w := by
  obtain ⟨i, h1, h2, h3, h4, h5, h6⟩ := ht.i
  cases A <;> cases B <;> simp [Builtin.append_, run_under ht.u, sizeOf, typeInfo, h1, Builtin.lenOf, h, Builtin.firstCells, storeCells, loadCells, loadCellsFrom, Sem.run_bind]

theorem run_app {t E k by_ : Nat} {z : Value} (ht : ElemT P t E k by_ z) {A B : Option Addr} {n cap m c : Nat} {xs ys : List Value} {Z : Nat → Prop} (ho : Own w A E k n cap xs Z) (hs : Sl w B ys) (hl : ys.length = m * k) (h1 : ∀ u ∈ ys, u.oneCell' = true)
    (hroom : (n + m) * by_ ≤ 140737488355328) (hlen : n + m ≤ 140737488355328) :
    ∃ A' cap' w', (Builtin.append_ #[t, t] ty #[.slice A n cap, .slice B m c]).run P w = .ok (.slice A' (n + m) cap') w' ∧
      Own w' A' E k (n + m) cap' (xs ++ ys) (fun b => (∃ a, A = some a ∧ a.block = b) ∨ w.heap.size ≤ b) ∧ Chg (fun b => ∃ a, A = some a ∧ a.block = b) w w' ∧ (A' = none → A = none ∧ m = 0) := by
  by_cases hm : m = 0
  · subst hm
    have hy : ys = [] := List.eq_nil_of_length_eq_zero (by simpa using hl)
    subst hy
    refine ⟨A, cap, w, run_app_none ht A B n cap c ho.le, ?_, Chg.refl _ _, fun h => ⟨h, rfl⟩⟩
    rw [List.append_nil]
    exact ho.zone fun a ha => Or.inl ⟨a, ha, rfl⟩
  obtain ⟨i, g1, g2, g3, g4, g5, g6⟩ := ht.i
  have hB : ∃ b, B = some b := by
    have : 0 < ys.length := by rw [hl]; exact Nat.mul_pos (by omega) (g3 ▸ g3 ▸ g6)
    obtain ⟨a, h2, _⟩ := hs 0 ys[0] (by simp)
    exact ⟨a, h2⟩
  obtain ⟨b, rfl⟩ := hB
  have hr := hs.read rfl
  subst g3
  subst g4
  have hmax : n + m ≤ maxLen := by unfold maxLen; omega
  have hlx : (xs ++ ys).length = (n + m) * i.size := by rw [List.length_append, ho.1, hl, Nat.add_mul]
  have grown : ∀ (old : Nat), Own (w.drew.alloc (.cells (xs.toArray ++ ys.toArray ++ Builtin.zeroCells z.cells (grownCap w (n + m) old E - (n + m))) E)) (some ⟨w.heap.size, 0, none⟩) E i.size (n + m) (grownCap w (n + m) old E) (xs ++ ys) (fun b => (∃ a, A = some a ∧ a.block = b) ∨ w.heap.size ≤ b) ∧
      Chg (fun b => ∃ a, A = some a ∧ a.block = b) w (w.drew.alloc (.cells (xs.toArray ++ ys.toArray ++ Builtin.zeroCells z.cells (grownCap w (n + m) old E - (n + m))) E)) := by
    intro old
    refine ⟨⟨hlx, .inr ⟨w.heap.size, _, rfl, Or.inr (Nat.le_refl _), heap_alloc_new w.drew _, grownCap_ge w (n + m) old E, grownCap_le_maxLen w (n + m) old E hmax, ?_, ?_⟩⟩, ⟨rfl, rfl, rfl, by simp, fun k hk _ => heap_alloc_old w.drew _ k hk⟩⟩
    · have hge := grownCap_ge w (n + m) old E
      simp only [Array.size_append, List.size_toArray, size_zeroCells, g5, ho.1, hl, ← Nat.add_mul]
      exact Nat.mul_le_mul_right _ (by omega)
    · simp only [Array.toList_append, List.append_assoc]
      rw [← List.append_assoc, ← hlx]
      exact List.take_left
  rcases ho.2 with ⟨rfl, rfl, rfl⟩ | ⟨g, cur, rfl, hz, hg, hnc, hcm, hcs, htake⟩
  · have hx : xs = [] := List.eq_nil_of_length_eq_zero (by simpa using ho.1)
    subst hx
    have hrun := run_append_nil (P := P) w t ty E i z ht.u g1 g2 b m c ys hl hr (by omega) (by omega) (by simp only [Nat.zero_add] at hroom; omega)
    have hgr := grown 0
    simp only [Nat.zero_add, List.nil_append, Array.empty_append] at hgr ⊢
    exact ⟨_, _, _, hrun, hgr.1, hgr.2, fun h => by cases h⟩
  · by_cases hroom' : n + m ≤ cap
    · have hfit : n * i.size + ys.length ≤ cur.size := by
        rw [hl, ← Nat.add_mul]
        exact Nat.le_trans (Nat.mul_le_mul_right _ hroom') hcs
      have hrun := run_append_room (P := P) w t ty E i ht.u g1 g n cap cur hg b m c ys hl hr h1 hroom' hfit
      refine ⟨_, _, _, hrun, ⟨hlx, .inr ⟨g, _, rfl, Or.inl ⟨_, rfl, rfl⟩, setRow_heap w g cur _ E _ hg, hroom', hcm, ?_, ?_⟩⟩, ⟨rfl, rfl, rfl, by simp, fun k _ hk => setRow_other w g k _ (fun e => hk ⟨_, rfl, e.symm⟩)⟩, fun h => by cases h⟩
      · simp only [List.size_toArray, List.length_append, List.length_take, List.length_drop, Array.length_toList]
        omega
      · rw [htake, ← hlx]
        exact List.take_left
    · have hrun := run_append_grow (P := P) w t ty E i z ht.u g1 g2 ⟨g, 0, none⟩ n cap xs ho.1 (ho.sl.read rfl) b m c ys hl hr (by omega) (by omega) (growslice_fits (by omega) hroom)
      exact ⟨_, _, _, hrun, (grown cap).1, (grown cap).2, fun h => by cases h⟩

theorem OpW.append {t t' E k by_ n cap m c : Nat} {z : Value} {x y : Operand} {A B : Option Addr} {xs ys : List Value} {Z : Nat → Prop} [ht : ElemT P t E k by_ z] (hx : ev e x = .slice A n cap) (hy : ev e y = .slice B m c) (htt : t' = t) (ho : Own w A E k n cap xs Z) (hs : Sl w B ys) (hl : ys.length = m * k) (h1 : ∀ u ∈ ys, u.oneCell' = true)
    (hroom : (n + m) * by_ ≤ 140737488355328 ∧ n + m ≤ 140737488355328)
    (h : ∀ A' cap' w', Own w' A' E k (n + m) cap' (xs ++ ys) (fun b => (∃ a, A = some a ∧ a.block = b) ∨ w.heap.size ≤ b) → Chg (fun b => ∃ a, A = some a ∧ a.block = b) w w' → (A' = none → A = none ∧ m = 0) → K (.slice A' (n + m) cap') w') :
    OpW P (.call ⟨.builtin .append, #[x, y], #[t, t']⟩) ty e w K := by
  subst htt
  obtain ⟨A', cap', w', hr, h2, h3, h4⟩ := run_app (ty := ty) ht ho hs hl h1 hroom.1 hroom.2
  exact OpW.builtin (s := Builtin.append_ #[t', t'] ty #[ev e x, ev e y]) (fun _ => by simp [Go.builtin]) (by rw [hx, hy]; exact hr) (h A' cap' w' h2 h3 h4)

/-- append(nil, make([]T, m)...): what slices.Grow does. -/
theorem OpW.appendMake {t t' E k by_ : Nat} {z : Value} {x y : Operand} {m : Nat} [ht : ElemT P t E k by_ z] [hi : IntT P t' .i64] (hx : ev e x = .slice none 0 0) (hy : ev e y = .int .i64 (m : Int)) (h0 : 0 < m) (hroom : m * by_ ≤ 140737488355328 ∧ m ≤ 140737488355328)
    (h : ∀ b cap' cur w', m ≤ cap' → cap' ≤ maxLen → cur.size = cap' * k → New w w' b (.cells cur E) → K (.slice (some ⟨b, 0, none⟩) m cap') w') :
    OpW P (.call ⟨.builtin .append, #[x, y], #[t, t']⟩) ty e w K := by
  obtain ⟨i, g1, g2, g3, g4, g5, g6⟩ := ht.i
  subst g3
  subst g4
  have hw : IntKind.i64.wrap (m : Int) = (m : Int) := wrap_i64 (by omega) (by omega)
  have e1 : ¬ ((m : Int) < 0) := by omega
  have e2 : ¬ ((m : Int) * (i.bytes : Int) > 2 ^ 48) := by
    have := hroom.1
    have h2 : ((m * i.bytes : Nat) : Int) ≤ 140737488355328 := by omega
    rw [Int.natCast_mul] at h2
    omega
  have e3 : ¬ (m ≤ 0) := by omega
  have e4 : ¬ ((m : Int) > IntKind.i64.max) := by simp [IntKind.max, IntKind.signed, IntKind.bits]; omega
  have e5 : ¬ (Builtin.nextslicecap m 0 * i.bytes > 2 ^ 48) := by
    rw [nextslicecap_zero h0]
    have := hroom.1
    omega
  have e6 : ¬ (m * i.size = 0) := by
    intro h
    rcases Nat.mul_eq_zero.1 h with h | h <;> omega
  have hmax : m ≤ maxLen := by unfold maxLen; omega
  have hge := grownCap_ge w m 0 E
  refine OpW.builtin (s := Builtin.append_ #[t, t'] ty #[ev e x, ev e y]) (fun _ => by simp [Go.builtin]) (v := .slice (some ⟨w.heap.size, 0, none⟩) m (grownCap w m 0 E)) (w' := w.drew.alloc (.cells (Builtin.zeroCells z.cells m ++ Builtin.zeroCells z.cells (grownCap w m 0 E - m)) E)) ?_ ?_
  · rw [hx, hy]
    simp only [Builtin.append_]
    simp [run_under ht.u, Sem.run_bind, hi.h, sizeOf, typeInfo, g1, asInt, asIntOf, hw, zeroValue, g2, Builtin.firstCells, Question.forced, newRow, grownCap]
    have f1 : ¬ ((m : Int) < 0) := e1
    have f2 : ¬ (281474976710656 < (m : Int) * (i.bytes : Int)) := fun h => e2 (by simpa using h)
    have f3 : ¬ (m = 0) := by omega
    have f4 : ¬ (9223372036854775807 < (m : Int)) := by omega
    have f5 : ¬ (281474976710656 < Builtin.nextslicecap m 0 * i.bytes) := fun h => e5 (by simpa using h)
    simp only [f1, f2, f3, f4, f5, e6, if_false]
  · exact h _ _ _ _ hge (grownCap_le_maxLen w m 0 E hmax) (by simp only [Array.size_append, size_zeroCells, g5, ← Nat.add_mul]; congr 1; omega) ⟨⟨rfl, rfl, rfl, by simp, fun k hk _ => heap_alloc_old w.drew _ k hk⟩, heap_alloc_new w.drew _, Nat.le_refl _⟩
end
end B
end Go.Proofs.Ytlofcomnhecgfaa
/- Rules of the walk: slices of slices, texts and bytes, literals, make. No conditions. -/
namespace Go.Proofs.Ytlofcomnhecgfaa
namespace B
set_option linter.unusedVariables false
set_option linter.unusedSimpArgs false

def bv (x : UInt8) : Value := .int .u8 (x.toNat : Int)
def bvs (l : List UInt8) : List Value := l.map bv
def bstr (l : List UInt8) : ByteArray := ⟨l.toArray⟩
theorem bvs_length (l : List UInt8) : (bvs l).length = l.length := by simp [bvs]
theorem bvs_append (l m : List UInt8) : bvs (l ++ m) = bvs l ++ bvs m := by simp [bvs]
theorem bvs_get (l : List UInt8) (i : Nat) : (bvs l)[i]? = (l[i]?).map bv := by simp [bvs]
theorem bvs_one (l : List UInt8) : ∀ u ∈ bvs l, u.oneCell' = true := by
  intro u hu
  simp only [bvs, List.mem_map] at hu
  obtain ⟨x, _, rfl⟩ := hu
  rfl
theorem bvs_take (l : List UInt8) (n : Nat) : (bvs l).take n = bvs (l.take n) := by simp [bvs]
theorem bvs_drop (l : List UInt8) (n : Nat) : (bvs l).drop n = bvs (l.drop n) := by simp [bvs]
theorem bstr_toList (l : List UInt8) : (bstr l).toList = l := by rw [ByteArray.toList_eq]; rfl
theorem bstr_data (l : List UInt8) : (bstr l).data.toList = l := rfl
theorem bstr_size (l : List UInt8) : (bstr l).size = l.length := by simp [bstr, ByteArray.size]
theorem bstr_eta (s : ByteArray) : bstr s.data.toList = s := by cases s; simp [bstr]
theorem bstr_append (l m : List UInt8) : bstr l ++ bstr m = bstr (l ++ m) := by
  have h : ∀ a b : ByteArray, a.data = b.data → a = b := fun a b h => by cases a; cases b; simp_all
  apply h
  simp [bstr, ByteArray.data_append]

section
variable {P : Program} {e : Env} {w : World} {K : Value → World → Prop} {ty : TypeId}

/-! ### Slices of slices -/
theorem run_bound {k : IntKind} {x : Nat} {y : Nat} {code : BoundsCode} (h : x ≤ y) : (Instr.sliceBound (.int k (x : Int)) y code).run P w = .ok x w := by
  simp only [Instr.sliceBound, asIntOf, Sem.run_bind, Sem.run_pure, Result.andThen_ok, pure_bind]
  rw [if_pos (by omega)]
  simp
theorem add_eq {A : Option Addr} (n : Nat) (h : ∀ a, A = some a → a.spot = none) : (A.map fun a => a.add n) = at_ A n := by
  cases A with
  | none => rfl
  | some a =>
    obtain ⟨b, o, s⟩ := a
    have := h _ rfl
    simp only at this
    subst this
    simp [at_, add_at]
theorem at_zero {A : Option Addr} (h : ∀ a, A = some a → a.spot = none) : at_ A 0 = A := by
  cases A with
  | none => rfl
  | some a =>
    obtain ⟨b, o, s⟩ := a
    have := h _ rfl
    simp only at this
    subst this
    rfl
theorem at_at (A : Option Addr) (i j : Nat) : at_ (at_ A i) j = at_ A (i + j) := by
  cases A <;> simp [at_, Nat.add_assoc]

theorem run_slice' {t E k by_ : Nat} {z : Value} (ht : ElemT P t E k by_ z) {A B : Option Addr} {n c l h m : Nat} {lo hi mx : Option Value} (hB : (A.map fun a => a.add (l * k)) = B)
    (hb : (Instr.sliceBounds true n c lo hi mx).run P w = .ok (l, h, m) w) :
    (Instr.sliceAt t (.slice A n c) lo hi mx).run P w = .ok (.slice (if m = l then A else B) (h - l) (m - l)) w := by
  simp only [Instr.sliceAt, Sem.run_bind, ht.slice, Result.andThen_ok, Instr.slice, hb, ht.size]
  rw [← hB]
  rfl
theorem run_slice {t E k by_ : Nat} {z : Value} (ht : ElemT P t E k by_ z) {A : Option Addr} {n c l h m : Nat} {lo hi mx : Option Value} (hsp : ∀ a, A = some a → a.spot = none)
    (hb : (Instr.sliceBounds true n c lo hi mx).run P w = .ok (l, h, m) w) :
    (Instr.sliceAt t (.slice A n c) lo hi mx).run P w = .ok (.slice (if m = l then A else at_ A (l * k)) (h - l) (m - l)) w :=
  run_slice' ht (add_eq (l * k) hsp) hb
theorem add_zero' {A : Option Addr} (k : Nat) : (A.map fun a => a.add (0 * k)) = A := by
  cases A <;> simp [Addr.add]

/-- x[:h]. -/
theorem OpW.sliceHi {t E k by_ n c : Nat} {z : Value} {x y : Operand} {A : Option Addr} {kk : IntKind} {j : Int} (h : Nat) [ht : ElemT P t E k by_ z] (hx : ev e x = .slice A n c) (hy : ev e y = .int kk j) (hj : j = (h : Int)) (hh : h ≤ c) (hk : K (.slice A h c) w) : OpW P (.slice t x none (some y) none) ty e w K := by
  refine OpW.of_sem (s := Instr.sliceAt t (ev e x) none (some (ev e y)) none) rfl (v := .slice A h c) (w' := w) ?_ hk
  rw [hx, hy, hj]
  rw [run_slice' ht (add_zero' k) (l := 0) (h := h) (m := c)]
  · congr 1
    split <;> rfl
  · simp [Instr.sliceBounds, Sem.run_bind, run_bound hh, Result.andThen]

/-- x[l:]. -/
theorem OpW.sliceLo {t E k by_ n c : Nat} {z : Value} {x y : Operand} {A : Option Addr} {kk : IntKind} {j : Int} (l : Nat) [ht : ElemT P t E k by_ z] (hx : ev e x = .slice A n c) (hy : ev e y = .int kk j) (hj : j = (l : Int)) (hl : l ≤ n) (hsp : ∀ a, A = some a → a.spot = none) (hk : ∀ B, (B = A ∧ c = l ∨ B = at_ A (l * k)) → K (.slice B (n - l) (c - l)) w) : OpW P (.slice t x (some y) none none) ty e w K := by
  refine OpW.of_sem (s := Instr.sliceAt t (ev e x) (some (ev e y)) none none) rfl (v := .slice (if c = l then A else at_ A (l * k)) (n - l) (c - l)) (w' := w) ?_ (hk _ ?_)
  · rw [hx, hy, hj]
    rw [run_slice ht hsp (l := l) (h := n) (m := c)]
    simp [Instr.sliceBounds, Sem.run_bind, run_bound hl, Result.andThen]
  · split
    · exact Or.inl ⟨rfl, ‹_›⟩
    · exact Or.inr rfl

/-- x[l:h]. -/
theorem OpW.sliceLoHi {t E k by_ n c : Nat} {z : Value} {x y u : Operand} {A : Option Addr} {kk kk' : IntKind} {j j' : Int} (l h : Nat) [ht : ElemT P t E k by_ z] (hx : ev e x = .slice A n c) (hy : ev e y = .int kk j) (hj : j = (l : Int)) (hu : ev e u = .int kk' j') (hj' : j' = (h : Int)) (hl : l ≤ h) (hh : h ≤ c) (hsp : ∀ a, A = some a → a.spot = none) (hk : ∀ B, (B = A ∧ c = l ∨ B = at_ A (l * k)) → K (.slice B (h - l) (c - l)) w) : OpW P (.slice t x (some y) (some u) none) ty e w K := by
  refine OpW.of_sem (s := Instr.sliceAt t (ev e x) (some (ev e y)) (some (ev e u)) none) rfl (v := .slice (if c = l then A else at_ A (l * k)) (h - l) (c - l)) (w' := w) ?_ (hk _ ?_)
  · rw [hx, hy, hj, hu, hj']
    rw [run_slice ht hsp (l := l) (h := h) (m := c)]
    simp [Instr.sliceBounds, Sem.run_bind, run_bound hl, run_bound hh, Result.andThen]
  · split
    · exact Or.inl ⟨rfl, ‹_›⟩
    · exact Or.inr rfl

/-- x[:h:h]. -/
theorem OpW.sliceHiMax {t E k by_ n c : Nat} {z : Value} {x y u : Operand} {A : Option Addr} {kk kk' : IntKind} {j j' : Int} (h : Nat) [ht : ElemT P t E k by_ z] (hx : ev e x = .slice A n c) (hy : ev e y = .int kk j) (hj : j = (h : Int)) (hu : ev e u = .int kk' j') (hj' : j' = (h : Int)) (hh : h ≤ c) (hk : K (.slice A h h) w) : OpW P (.slice t x none (some y) (some u)) ty e w K := by
  refine OpW.of_sem (s := Instr.sliceAt t (ev e x) none (some (ev e y)) (some (ev e u))) rfl (v := .slice A h h) (w' := w) ?_ hk
  rw [hx, hy, hj, hu, hj']
  rw [run_slice' ht (add_zero' k) (l := 0) (h := h) (m := h)]
  · congr 1
    split <;> rfl
  · simp [Instr.sliceBounds, Sem.run_bind, run_bound hh, run_bound (Nat.le_refl h), Result.andThen]

/-! ### Texts and bytes -/
theorem run_push (f : Value → ByteArray → Sem (ForInStep ByteArray)) (hf : ∀ (n : Int) (r : ByteArray), (f (.int .u8 n) r).run P w = .ok (.yield (r.push (UInt8.ofNat n.toNat))) w) :
    ∀ (l : List UInt8) (s : List UInt8), (forIn (bvs l) (bstr s) f).run P w = .ok (bstr (s ++ l)) w := by
  intro l
  induction l with
  | nil => intro s; simp [bvs, Sem.run_pure]
  | cons n l ih =>
    intro s
    have hp : (bstr s).push (UInt8.ofNat ((n.toNat : Int)).toNat) = bstr (s ++ [n]) := by
      have h : ∀ a b : ByteArray, a.data = b.data → a = b := fun a b h => by cases a; cases b; simp_all
      apply h
      simp [bstr, ByteArray.push]
    simp only [bvs, List.map_cons, List.forIn_cons, Sem.run_bind, bv, hf, Result.andThen, hp]
    have := ih (s ++ [n])
    simp only [bvs] at this
    rw [this]
    simp

theorem OpW.toStr {s d E k by_ : Nat} {z : Value} {x : Operand} {A : Option Addr} {n c : Nat} {l : List UInt8} [ht : ElemT P s E k by_ z] [he : IntT P E .u8] [hd : StrT P d] (hx : ev e x = .slice A n c) (hs : Sl w A (bvs l)) (hn : n = l.length) (h : K (.string (bstr l)) w) : OpW P (.convert s d x) ty e w K := by
  refine OpW.of_sem (s := convert s d (ev e x)) rfl (v := .string (bstr l)) (w' := w) ?_ h
  rw [hx]
  have hconv : (convert s d (.slice A n c)).run P w = (Conv.bytesToString (.slice A n c)).run P w := by
    simp only [convert, Sem.run_bind, ht.slice, hd.h, Result.andThen_ok]
    cases A <;> simp [Sem.run_bind, he.h]
  rw [hconv]
  cases A with
  | none =>
    have : l = [] := by
      cases l with
      | nil => rfl
      | cons a l => obtain ⟨a', h1, _⟩ := hs 0 (bv a) (by simp [bvs]); cases h1
    subst this
    simp [Conv.bytesToString, bstr, Sem.run_pure]
    rfl
  | some a =>
    subst hn
    unfold Conv.bytesToString
    have hl := run_cells (P := P) l.length (bvs l) (bvs_length l) (hs.read rfl)
    simp only [Sem.run_bind, hl, Result.andThen, List.forIn_toArray]
    have := run_push (P := P) (w := w) (fun c r => do
        let .int .u8 n := c | stuck "bytesToString: byte expected"
        pure (.yield (r.push (UInt8.ofNat n.toNat)))) (by intro n r; simp [Sem.run_pure]) l []
    simp only [List.nil_append] at this
    have e0 : (ByteArray.empty : ByteArray) = bstr [] := rfl
    rw [e0]
    erw [this]
    simp [Sem.run_pure]

theorem OpW.toBytes {s d E k by_ : Nat} {z : Value} {x : Operand} {l : List UInt8} [hs : StrT P s] [ht : ElemT P d E k by_ z] [he : IntT P E .u8] (hx : ev e x = .string (bstr l))
    (h : ∀ b cap w', Grow w w' → w.heap.size ≤ b → b < w'.heap.size → Sl w' (some ⟨b, 0, none⟩) (bvs l) → l.length ≤ cap → K (.slice (some ⟨b, 0, none⟩) l.length cap) w') : OpW P (.convert s d x) ty e w K := by
  have hu : P.underlying E = some (.int .u8) := by
    have := he.h w
    unfold underlying at this
    rw [Sem.run_bind] at this
    simp only [program, Sem.run, Result.andThen] at this
    cases hq : P.underlying E with
    | none => rw [hq] at this; simp [stuck, Sem.run] at this
    | some d => rw [hq] at this; simp [Sem.run_pure] at this; rw [this]
  have hus : P.underlying s = some .string := by
    have := hs.h w
    unfold underlying at this
    rw [Sem.run_bind] at this
    simp only [program, Sem.run, Result.andThen] at this
    cases hq : P.underlying s with
    | none => rw [hq] at this; simp [stuck, Sem.run] at this
    | some d => rw [hq] at this; simp [Sem.run_pure] at this; rw [this]
  have hr := Lib.run_convert_string_bytes (P := P) w s d E (bstr l) hus ht.u hu
  refine OpW.of_sem (s := convert s d (ev e x)) rfl (by rw [hx]; exact hr) ?_
  rw [bstr_size] at hr ⊢
  refine h _ _ _ ⟨?_, ?_, ?_, ?_, fun k hk _ => Lib.bytesWorld_at_old w E (bstr l) k hk⟩ (Nat.le_refl _) (by rw [Lib.bytesWorld_size]; omega) ?_ (grownCap_ge w _ 0 E)
  · simp only [Lib.bytesWorld, World.freeze]; split <;> rfl
  · simp only [Lib.bytesWorld, World.freeze]; split <;> rfl
  · simp only [Lib.bytesWorld, World.freeze]; split <;> rfl
  · rw [Lib.bytesWorld_size]; omega
  · intro i v hi
    rw [bvs_get] at hi
    cases hq : l[i]? with
    | none => rw [hq] at hi; cases hi
    | some u =>
      rw [hq] at hi
      simp only [Option.map_some, Option.some.injEq] at hi
      obtain ⟨hl, hv⟩ := List.getElem?_eq_some_iff.1 hq
      refine ⟨_, rfl, rfl, ?_⟩
      have := Lib.bytesWorld_cell w E (bstr l) i (by rw [bstr_size]; exact hl)
      rw [bstr_data, List.getD_eq_getElem?_getD, hq, Option.getD_some] at this
      rw [Nat.zero_add, this, ← hi]
      rfl

theorem OpW.binStr {op : BinOp} {t t' : TypeId} {x y : Operand} {l m : List UInt8} {v : Value} (hx : ev e x = .string (bstr l)) (hy : ev e y = .string (bstr m)) (hr : (Op.stringOp op (bstr l) (bstr m)).run P w = .ok v w) (ho : op = .add ∨ op = .eql ∨ op = .neq ∨ op = .lss) (h : K v w) : OpW P (.binOp op t x y t') ty e w K :=
  OpW.bin hx hy (by rw [Sem.run_bind, guard_other (by simp) (by simp)]; rcases ho with rfl | rfl | rfl | rfl <;> exact hr) h
theorem OpW.addS {t t' : TypeId} {x y : Operand} {l m : List UInt8} (hx : ev e x = .string (bstr l)) (hy : ev e y = .string (bstr m)) (hl : l.length + m.length ≤ 9223372036854775807) (h : K (.string (bstr (l ++ m))) w) : OpW P (.binOp .add t x y t') ty e w K :=
  OpW.binStr hx hy (by
    simp only [Op.stringOp, bstr_size]
    rw [if_neg (by simp [IntKind.max, IntKind.signed, IntKind.bits]; omega), bstr_append]; rfl) (Or.inl rfl) h
theorem OpW.eqlStr {t t' : TypeId} {x y : Operand} {l m : List UInt8} (hx : ev e x = .string (bstr l)) (hy : ev e y = .string (bstr m)) (h : K (.bool (decide (l = m))) w) : OpW P (.binOp .eql t x y t') ty e w K :=
  OpW.binStr hx hy (by simp only [Op.stringOp, bstr_toList]; rw [show (l == m) = decide (l = m) from by rw [Bool.eq_iff_iff]; simp]; rfl) (Or.inr (Or.inl rfl)) h
theorem OpW.neqStr {t t' : TypeId} {x y : Operand} {l m : List UInt8} (hx : ev e x = .string (bstr l)) (hy : ev e y = .string (bstr m)) (h : K (.bool (decide (¬ l = m))) w) : OpW P (.binOp .neq t x y t') ty e w K :=
  OpW.binStr hx hy (by simp only [Op.stringOp, bstr_toList, decide_not]; rw [show (l == m) = decide (l = m) from by rw [Bool.eq_iff_iff]; simp]; rfl) (Or.inr (Or.inr (Or.inl rfl))) h
theorem OpW.lssStr {t t' : TypeId} {x y : Operand} {l m : List UInt8} (hx : ev e x = .string (bstr l)) (hy : ev e y = .string (bstr m)) (h : K (.bool (Op.bytesLess l m)) w) : OpW P (.binOp .lss t x y t') ty e w K :=
  OpW.binStr hx hy (by simp only [Op.stringOp, bstr_toList]; rfl) (Or.inr (Or.inr (Or.inr rfl))) h

/-! ### Literals, make -/
theorem exec_buildSlice (t len : Nat) (parts : Array (Nat × Operand)) : execOp (ev e) ⟨none, .buildSlice t len parts, ty, "", #[], none⟩ = (do pure (.value (← Instr.buildSlice t len (parts.map fun p => (p.1, ev e p.2))))) := by
  simp only [execOp]
theorem exec_build (t : Nat) (parts : Array (Nat × Operand)) : execOp (ev e) ⟨none, .build t parts, ty, "", #[], none⟩ = (do pure (.value (← Instr.build t (parts.map fun p => (p.1, ev e p.2))))) := by
  simp only [execOp]
theorem OpW.buildSlice {t E k by_ len : Nat} {z : Value} {parts : Array (Nat × Operand)} {ps : Array (Nat × Value)} {cells : Array Value} [ht : ElemT P t E k by_ z] [hz : ZeroT P E z] (hp : (parts.map fun p => (p.1, ev e p.2)) = ps) (hlen : Nat.ble (len * k) (2 ^ 24) = true)
    (hf : Instr.fill (fun i => some (i * k, k)) ((Array.range (len * k)).map (fun i => (if len * k = 0 then #[] else z.cells)[i % (if len * k = 0 then #[] else z.cells).size]!)) ps.toList = some cells)
    (h : ∀ b w', New w w' b (.cells cells E) → K (.slice (some ⟨b, 0, none⟩) len len) w') : OpW P (.buildSlice t len parts) ty e w K := by
  have hk := h _ _ (New.push w (.cells cells E))
  clear h
  refine OpW.of_sem (exec_buildSlice (e := e) (ty := ty) t len parts) ?_ hk
  have hle : ¬ (len * k > 2 ^ 24) := Nat.not_lt.2 (Nat.le_of_ble_eq_true hlen)
  clear hlen
  rw [hp]
  simp only [Instr.buildSlice, Sem.run_bind, ht.slice, Result.andThen_ok, ht.size, hle, if_false]
  by_cases h0 : len * k = 0
  · simp only [h0, if_true] at hf ⊢
    simp only [Sem.run_bind, Result.andThen_ok, Sem.run_pure, hf]
    simp [newRow, newObj, Sem.run, Result.andThen, Sem.run_bind]
  · simp only [h0, if_false] at hf ⊢
    simp only [Sem.run_bind, hz.h, Result.andThen_ok, Sem.run_pure, hf]
    simp [newRow, newObj, Sem.run, Result.andThen, Sem.run_bind]

/-- []T{}: nothing. -/
theorem OpW.buildNone {t E k by_ : Nat} {z : Value} [ht : ElemT P t E k by_ z] [hz : ZeroT P E z] (h : ∀ b w', New w w' b (.cells #[] E) → K (.slice (some ⟨b, 0, none⟩) 0 0) w') : OpW P (.buildSlice t 0 #[]) ty e w K := by
  refine OpW.buildSlice (ps := #[]) (cells := #[]) (by simp) (by rw [Nat.zero_mul]; rfl) ?_ h
  have : ∀ a : Array Value, a.size = 0 → Instr.fill (fun i => some (i * k, k)) a [] = some #[] := fun a ha => by
    rw [Array.eq_empty_of_size_eq_zero ha]; rfl
  exact this _ (by simp)

class PlacesT (P : Program) (t : TypeId) (ps : outParam (Array (Nat × Nat))) (z : outParam Value) : Prop where
  h : ∃ fs, (∀ w, (underlying t).run P w = .ok (.struct fs) w) ∧ ∀ w, (fs.mapM fun f => (do pure (f.offset, ← sizeOf f.type) : Sem (Nat × Nat))).run P w = .ok ps w
  z : ∀ w, (zeroValue t).run P w = .ok z w
theorem OpW.build {t : TypeId} {z : Value} {pl : Array (Nat × Nat)} {parts : Array (Nat × Operand)} {ps : List (Nat × Value)} {cells : Array Value} [ht : PlacesT P t pl z] (hp : parts.toList.map (fun p => (p.1, ev e p.2)) = ps) (hf : Instr.fill (pl[·]?) z.cells ps = some cells) (h : K (.agg cells) w) : OpW P (.build t parts) ty e w K := by
  obtain ⟨fs, h1, h2⟩ := ht.h
  have hl : (parts.map fun p => (p.1, ev e p.2)).toList = ps := by rw [Array.toList_map]; exact hp
  refine OpW.of_sem (s := Instr.build t (parts.map fun p => (p.1, ev e p.2))) (exec_build _ _) (v := .agg cells) (w' := w) ?_ h
  simp only [Instr.build, Sem.run_bind, ht.z, h1, Result.andThen_ok, h2, hl, hf, Sem.run_pure]

theorem OpW.makeSlice {t E by_ n : Nat} {z : Value} {x y : Operand} [ht : ElemT P t E 1 by_ z] [hz : ZeroT P E z] (hzc : z.cells = #[z]) (hx : ev e x = .int .i64 (n : Int)) (hy : ev e y = .int .i64 (n : Int)) (hb : by_ * n ≤ 140737488355328) (hn : n ≤ 140737488355328)
    (h : ∀ b w', New w w' b (.cells (Array.replicate n z) E) → K (.slice (some ⟨b, 0, none⟩) n n) w') : OpW P (.makeSlice t x y) ty e w K := by
  refine OpW.of_sem (s := Instr.makeSlice t (ev e x) (ev e y)) rfl (v := .slice (some ⟨w.heap.size, 0, none⟩) n n) (w' := { w with heap := w.heap.push (.cells (Array.replicate n z) E) }) ?_ (h _ _ (New.push _ _))
  obtain ⟨i, g1, g2, g3, g4, g5, g6⟩ := ht.i
  have hw : IntKind.i64.wrap (n : Int) = (n : Int) := wrap_i64 (by omega) (by omega)
  have hbi : (i.bytes : Int) * (n : Int) ≤ 140737488355328 := by rw [g4, ← Int.natCast_mul]; omega
  have hcells : ((Array.range n).map fun j => (#[z] : Array Value)[j % (#[z] : Array Value).size]!) = Array.replicate n z := by
    apply Array.ext
    · simp
    · intro j h1 h2
      simp [Nat.mod_one]
  have hcells0 : (Array.range n).map (fun j => (if n = 0 then (#[] : Array Value) else #[z])[j % (if n = 0 then (#[] : Array Value) else #[z]).size]!) = Array.replicate n z := by
    by_cases h0 : n = 0
    · subst h0; simp
    · simp only [h0, if_false]; exact hcells
  rw [hx, hy]
  have c1 : ¬ ((n : Int) < 0) := by omega
  have c2 : ¬ (281474976710656 < (i.bytes : Int) * (n : Int)) := by omega
  have c3 : ¬ (n * i.bytes > 2 ^ 47) := by rw [g4, Nat.mul_comm]; omega
  simp only [Instr.makeSlice, Sem.run_bind, ht.slice, Result.andThen_ok, asInt, asIntOf, Sem.run_pure, pure_bind, hw, typeInfo, program, Sem.run, g1, Result.andThen]
  rw [if_neg (by simp; omega)]
  simp only [Sem.run_bind, askRoom, roomBytes, Int.toNat_natCast, c3, if_false, Sem.run_pure, Result.andThen, ht.size, Nat.mul_one]
  by_cases h0 : n = 0
  · subst h0
    simp [newRow, newObj, Sem.run_bind, Sem.run, Result.andThen, Array.range]
  · simp only [h0, if_false, Sem.run_bind, hz.h, Result.andThen, Sem.run_pure, hzc, hcells]
    simp [newRow, newObj, Sem.run_bind, Sem.run, Result.andThen]
end
end B
end Go.Proofs.Ytlofcomnhecgfaa
/- Small laws on what is new, and on slices of bytes of the call's own. No conditions. -/
namespace Go.Proofs.Ytlofcomnhecgfaa
namespace B
set_option linter.unusedVariables false

theorem Grow.chgNew {S : Nat → Prop} {a b c : World} (h : Grow a b) (k : Chg S b c) (hn : ∀ i, i < a.heap.size → ¬ S i) : Grow a c :=
  Chg.trans h k fun i hi hs => (hn i hi hs).elim
theorem Own.of_new {w w' : World} {b : Nat} {cur : Array Value} {E k n cap : Nat} {xs : List Value} (h : New w w' b (.cells cur E)) (h1 : n ≤ cap) (h2 : cap ≤ maxLen) (h3 : cap * k ≤ cur.size) (h4 : xs.length = n * k) (h5 : cur.toList.take (n * k) = xs) : Own w' (some ⟨b, 0, none⟩) E k n cap xs (fresh w) :=
  ⟨h4, .inr ⟨b, cur, rfl, h.fresh, h.at_, h1, h2, h3, h5⟩⟩
theorem Own.empty {w w' : World} {b : Nat} {E k : Nat} (h : New w w' b (.cells #[] E)) : Own w' (some ⟨b, 0, none⟩) E k 0 0 [] (fresh w) :=
  Own.of_new h (Nat.le_refl _) (Nat.zero_le _) (by simp) (by simp) (by simp)
/-- A whole literal. -/
theorem Own.lit {w w' : World} {b : Nat} {cur : Array Value} {E n : Nat} {xs : List Value} (h : New w w' b (.cells cur E)) (h1 : cur.toList = xs) (h2 : xs.length = n) (h3 : n ≤ maxLen) : Own w' (some ⟨b, 0, none⟩) E 1 n n xs (fresh w) := by
  have hs : cur.size = n := by rw [← h2, ← h1]; simp
  refine Own.of_new h (Nat.le_refl _) h3 (by omega) (by omega) ?_
  rw [h1, Nat.mul_one, ← h2, List.take_length]
theorem fresh_mono {a b : World} (h : Grow a b) (g : Nat) (hg : fresh b g) : fresh a g := Nat.le_trans h.size hg
theorem fresh_mono' {S : Nat → Prop} {a b : World} (h : Chg S a b) (g : Nat) (hg : fresh b g) : fresh a g := Nat.le_trans h.size hg

/-- The zone of what append hands back. -/
def appZone (w : World) (A : Option Addr) : Nat → Prop := fun b => (∃ a, A = some a ∧ a.block = b) ∨ w.heap.size ≤ b
theorem appZone_fresh {w w1 : World} {A : Option Addr} (hA : ∀ a, A = some a → w.heap.size ≤ a.block) (h : w.heap.size ≤ w1.heap.size) (b : Nat) (hb : (∃ a, A = some a ∧ a.block = b) ∨ w1.heap.size ≤ b) : fresh w b := by
  rcases hb with ⟨a, h1, rfl⟩ | h1
  · exact hA a h1
  · exact Nat.le_trans h h1

/-- A slice of bytes of the call's own. -/
def NewBytes (w w' : World) (v : Value) (l : List UInt8) : Prop := ∃ A cap, v = .slice A l.length cap ∧ Own w' A 5 1 l.length cap (bvs l) (fresh w) ∧ Grow w w'
theorem NewBytes.keep {w w1 w2 : World} {v : Value} {l : List UInt8} (h : NewBytes w w1 v l) (k : Grow w1 w2) : NewBytes w w2 v l := by
  obtain ⟨A, cap, h1, h2, h3⟩ := h
  exact ⟨A, cap, h1, h2.grow k, h3.then k⟩
theorem NewBytes.from_ {w0 w w' : World} {v : Value} {l : List UInt8} (h : NewBytes w w' v l) (k : Grow w0 w) : NewBytes w0 w' v l := by
  obtain ⟨A, cap, h1, h2, h3⟩ := h
  exact ⟨A, cap, h1, h2.mono fun g hg => fresh_mono k g hg, k.then h3⟩
theorem spot_own {w : World} {A : Option Addr} {E k n cap : Nat} {xs : List Value} {Z : Nat → Prop} (h : Own w A E k n cap xs Z) : ∀ a, A = some a → a.spot = none := by
  intro a ha
  rcases h.2 with ⟨h1, _⟩ | ⟨g, cur, h1, _⟩ <;> rw [h1] at ha <;> cases ha
  rfl
theorem sl_ne {w : World} {A : Option Addr} {cs : List Value} (h : Sl w A cs) {i : Nat} (hi : i < cs.length) : A ≠ none := by
  obtain ⟨a, h1, _⟩ := h i cs[i] (by simp [hi])
  rw [h1]; simp
theorem sl_sp {w : World} {A : Option Addr} {cs : List Value} (h : Sl w A cs) {i : Nat} (hi : i < cs.length) : ∀ a, A = some a → a.spot = none := by
  obtain ⟨a, h1, h2, _⟩ := h i cs[i] (by simp [hi])
  rw [h1]; intro a' ha; cases ha; exact h2
theorem bvs_cells (l : List UInt8) : ∀ v ∈ bvs l, v.cells = #[v] := by
  intro v hv
  simp only [bvs, List.mem_map] at hv
  obtain ⟨x, _, rfl⟩ := hv
  rfl
theorem bvs_len1 (l : List UInt8) : (bvs l).length = l.length * 1 := by simp [bvs]

/-! ### Literals whose elements are single cells -/
theorem fill_one (vs : List Value) (h1 : ∀ v ∈ vs, v.cells = #[v]) : ∀ (j : Nat) (cells : Array Value), j + vs.length ≤ cells.size →
    Instr.fill (fun i => some (i * 1, 1)) cells ((vs.zipIdx j).map fun p => (p.2, p.1)) = some (cells.toList.take j ++ vs ++ cells.toList.drop (j + vs.length)).toArray := by
  induction vs with
  | nil => intro j cells h; simp [Instr.fill]
  | cons v vs ih =>
    intro j cells h
    have hv := h1 v (by simp)
    simp only [List.zipIdx_cons, List.map_cons, Instr.fill, hv, Nat.mul_one]
    simp only [List.length_cons] at h
    rw [if_neg (by simp; omega)]
    have hset : (#[v].zipIdx.foldl (fun cs (x : Value × Nat) => cs.setIfInBounds (j + x.2) x.1) cells) = cells.setIfInBounds j v := by simp
    have ih' := ih (fun u hu => h1 u (by simp [hu])) (j + 1) (cells.setIfInBounds j v) (by simp; omega)
    simp only [Nat.mul_one] at ih'
    erw [hset, ih']
    congr 1
    apply congrArg
    rw [Array.toList_setIfInBounds]
    exact list_seg_step cells.toList j v vs (by simp; omega)

section
variable {P : Program} {e : Env} {w : World} {K : Value → World → Prop} {ty : TypeId}
/-- A literal of single cells, all of them given. -/
theorem OpW.buildLit {t E by_ len : Nat} {z : Value} {parts : Array (Nat × Operand)} (vs : List Value) [ht : ElemT P t E 1 by_ z] [hz : ZeroT P E z] (hp : parts.toList.map (fun p => (p.1, ev e p.2)) = (vs.zipIdx 0).map fun p => (p.2, p.1)) (hlen : vs.length = len) (hle : Nat.ble (len * 1) (2 ^ 24) = true) (h1 : ∀ v ∈ vs, v.cells = #[v])
    (h : ∀ b w', New w w' b (.cells vs.toArray E) → K (.slice (some ⟨b, 0, none⟩) len len) w') : OpW P (.buildSlice t len parts) ty e w K := by
  refine OpW.buildSlice (ps := (parts.map fun p => (p.1, ev e p.2))) rfl hle ?_ h
  have : (parts.map fun p => (p.1, ev e p.2)).toList = (vs.zipIdx 0).map fun p => (p.2, p.1) := by rw [Array.toList_map]; exact hp
  rw [this, fill_one vs h1 0 _ (by simp; omega)]
  simp only [List.take_zero, List.nil_append, Nat.zero_add, hlen]
  rw [List.drop_of_length_le (by simp)]
  simp
end
end B
end Go.Proofs.Ytlofcomnhecgfaa
/- Numbers in bytes: shifts, conversions; the forms of layer 2 as plain functions. No conditions. -/
namespace Go.Proofs.Ytlofcomnhecgfaa
namespace B
set_option linter.unusedVariables false

theorem fdiv_nat (n s : Nat) : (n : Int).fdiv (2 ^ s) = ((n / 2 ^ s : Nat) : Int) := by
  have h : (2 : Int) ^ s = ((2 ^ s : Nat) : Int) := by simp
  rw [h, Int.fdiv_eq_ediv_of_nonneg _ (Int.natCast_nonneg _), Int.natCast_ediv]
theorem ofNat_toNat (m : Nat) : ((UInt8.ofNat m).toNat : Int) = (m : Int) % 256 := by
  simp [UInt8.toNat_ofNat']
theorem ofNat_mod (m : Nat) : UInt8.ofNat (m % 256) = UInt8.ofNat m := by
  apply UInt8.toNat.inj
  simp [UInt8.toNat_ofNat']

section
variable {P : Program} {e : Env} {w : World} {K : Value → World → Prop} {ty : TypeId}
theorem OpW.shrN {t t' : TypeId} {x y : Operand} {k k' : IntKind} {n : Nat} {b : Int} (s : Nat) (hx : ev e x = .int k (n : Int)) (hy : ev e y = .int k' b) (hb : b = (s : Int)) (hs : s ≤ k.bits) (h : K (.int k ((n / 2 ^ s : Nat) : Int)) w) : OpW P (.binOp .shr t x y t') ty e w K :=
  OpW.shr ((n / 2 ^ s : Nat) : Int) hx hy (by omega) (by rw [hb, Int.toNat_natCast, Nat.min_eq_left hs]; exact fdiv_nat n s) h
theorem OpW.convByte {s d : TypeId} {k' : IntKind} {x : Operand} {m : Nat} [hs : IntT P s k'] [hd : IntT P d .u8] (hx : ev e x = .int k' (m : Int)) (h : K (.int .u8 ((UInt8.ofNat m).toNat : Int)) w) : OpW P (.convert s d x) ty e w K :=
  OpW.conv (k := .u8) _ hx (by rw [wrap_u8, ofNat_toNat]) h
theorem OpW.convU64 {s d : TypeId} {k' : IntKind} {x : Operand} {a : Int} [hs : IntT P s k'] [hd : IntT P d .u64] (hx : ev e x = .int k' a) (hb : 0 ≤ a ∧ a ≤ 18446744073709551615) (h : K (.int .u64 a) w) : OpW P (.convert s d x) ty e w K :=
  OpW.conv (k := .u64) _ hx (wrap_u64 hb.1 hb.2) h
theorem OpW.convI64 {s d : TypeId} {k' : IntKind} {x : Operand} {a : Int} [hs : IntT P s k'] [hd : IntT P d .i64] (hx : ev e x = .int k' a) (hb : -9223372036854775808 ≤ a ∧ a ≤ 9223372036854775807) (h : K (.int .i64 a) w) : OpW P (.convert s d x) ty e w K :=
  OpW.conv (k := .i64) _ hx (wrap_i64 hb.1 hb.2) h
theorem OpW.mulI {t t' : TypeId} {x y : Operand} {a b : Int} (c : Int) (hx : ev e x = .int .i64 a) (hy : ev e y = .int .i64 b) (hc : a * b = c ∧ -9223372036854775808 ≤ c ∧ c ≤ 9223372036854775807) (h : K (.int .i64 c) w) : OpW P (.binOp .mul t x y t') ty e w K :=
  OpW.mul hx hy (by rw [hc.1, wrap_i64 hc.2.1 hc.2.2]; exact h)
theorem OpW.quoN {t t' : TypeId} {x y : Operand} {k k' : IntKind} {n m : Nat} {b : Int} (hx : ev e x = .int .i64 (n : Int)) (hy : ev e y = .int .i64 b) (hb : b = (m : Int)) (hm : 0 < m) (hn : (n : Int) ≤ 9223372036854775807) (h : K (.int .i64 ((n / m : Nat) : Int)) w) : OpW P (.binOp .quo t x y t') ty e w K :=
  OpW.quo ((n / m : Nat) : Int) hx hy (by omega) (by
    have : (n : Int).tdiv (m : Int) = ((n / m : Nat) : Int) := by rw [Int.tdiv_eq_ediv_of_nonneg (Int.natCast_nonneg _), Int.natCast_ediv]
    rw [hb, this, wrap_i64 (by have := Int.natCast_nonneg (n / m); omega) (by have : n / m ≤ n := Nat.div_le_self _ _; omega)]) h
theorem OpW.remN {t t' : TypeId} {x y : Operand} {k : IntKind} {n m : Nat} {b : Int} (hx : ev e x = .int k (n : Int)) (hy : ev e y = .int k b) (hb : b = (m : Int)) (hm : 0 < m) (h : K (.int k ((n % m : Nat) : Int)) w) : OpW P (.binOp .rem t x y t') ty e w K :=
  OpW.rem ((n % m : Nat) : Int) hx hy (by omega) (by
    rw [hb, Int.tmod_eq_emod_of_nonneg (Int.natCast_nonneg _), Int.natCast_emod]) h
end

/-! ### The forms -/
def beN (n : Nat) : List UInt8 := [UInt8.ofNat (n / 2 ^ 56), UInt8.ofNat (n / 2 ^ 48), UInt8.ofNat (n / 2 ^ 40), UInt8.ofNat (n / 2 ^ 32), UInt8.ofNat (n / 2 ^ 24), UInt8.ofNat (n / 2 ^ 16), UInt8.ofNat (n / 2 ^ 8), UInt8.ofNat n]
def fld (x : List UInt8) : List UInt8 := x.take 65535
def be4 (n : Nat) : List UInt8 := [0, 0, UInt8.ofNat (n / 2 ^ 8), UInt8.ofNat n]
def putN (b : List UInt8) (n : Nat) : List UInt8 := b ++ beN n
def putB (b x : List UInt8) : List UInt8 := b ++ (be4 (fld x).length ++ fld x)
def putF (b : List UInt8) (y : Bool) : List UInt8 := b ++ [if y then 1 else 0]
theorem fld_length (x : List UInt8) : (fld x).length = min 65535 x.length := by simp [fld]
theorem beN_length (n : Nat) : (beN n).length = 8 := rfl
theorem be4_length (n : Nat) : (be4 n).length = 4 := rfl
theorem putN_length (b : List UInt8) (n : Nat) : (putN b n).length = b.length + 8 := by simp [putN, beN_length]
theorem putB_length (b x : List UInt8) : (putB b x).length = b.length + (4 + min 65535 x.length) := by simp [putB, be4_length, fld_length]
theorem putF_length (b : List UInt8) (y : Bool) : (putF b y).length = b.length + 1 := by simp [putF]

/-- The number that bytes are, the highest first. -/
def numOf (l : List UInt8) : Nat := l.foldl (fun x c => 256 * x + c.toNat) 0
theorem numOf_snoc (l : List UInt8) (c : UInt8) : numOf (l ++ [c]) = 256 * numOf l + c.toNat := by simp [numOf, List.foldl_append]
theorem numOf_lt (l : List UInt8) : numOf l < 256 ^ l.length := by
  suffices h : ∀ (l : List UInt8) (x : Nat), l.foldl (fun x c => 256 * x + c.toNat) x < 256 ^ l.length * (x + 1) by
    have := h l 0
    simpa [numOf] using this
  intro l
  induction l with
  | nil => intro x; simp
  | cons c l ih =>
    intro x
    have := ih (256 * x + c.toNat)
    have hc := c.toNat_lt
    simp only [List.foldl_cons, List.length_cons]
    refine Nat.lt_of_lt_of_le this ?_
    rw [Nat.pow_succ, Nat.mul_assoc]
    exact Nat.mul_le_mul_left _ (by omega)

theorem shl_or {P : Program} {w : World} (x : Nat) (c : UInt8) (hx : x < 2 ^ 56) : (Op.intBits .or .u64 ((256 * x : Nat) : Int) (c.toNat : Int)).run P w = .ok (.int .u64 ((256 * x + c.toNat : Nat) : Int)) w := by
  have hc := c.toNat_lt
  have e1 : BitVec.ofInt 64 ((256 * x : Nat) : Int) = BitVec.ofNat 64 (256 * x) := BitVec.ofInt_natCast 64 _
  have e2 : BitVec.ofInt 64 (c.toNat : Int) = BitVec.ofNat 64 c.toNat := BitVec.ofInt_natCast 64 _
  have h3 : (BitVec.ofNat 64 (256 * x) ||| BitVec.ofNat 64 c.toNat).toNat = 256 * x + c.toNat := by
    rw [BitVec.toNat_or, BitVec.toNat_ofNat, BitVec.toNat_ofNat, Nat.mod_eq_of_lt (by omega), Nat.mod_eq_of_lt (by omega)]
    have := Nat.two_pow_add_eq_or_of_lt (i := 8) (b := c.toNat) (by simpa using hc) x
    rw [show (256 : Nat) = 2 ^ 8 by rfl, ← this]
  show Sem.run P (pure (Value.int .u64 (IntKind.u64.wrap ((BitVec.ofInt 64 ((256 * x : Nat) : Int) ||| BitVec.ofInt 64 (c.toNat : Int)).toNat : Int)))) w = _
  rw [e1, e2, h3, wrap_u64 (by omega) (by omega)]
  rfl
section
variable {P : Program} {e : Env} {w : World} {K : Value → World → Prop} {ty : TypeId}
/-- x<<8 of 64 bits. -/
theorem OpW.shl8 {t t' : TypeId} {a b : Operand} {k' : IntKind} {x : Nat} (hx : ev e a = .int .u64 (x : Int)) (hy : ev e b = .int k' 8) (hl : x < 2 ^ 56) (h : K (.int .u64 ((256 * x : Nat) : Int)) w) : OpW P (.binOp .shl t a b t') ty e w K :=
  OpW.shl ((256 * x : Nat) : Int) hx hy (by decide) (by
    show IntKind.u64.wrap ((x : Int) * 2 ^ 8) = _
    rw [wrap_u64 (by omega) (by omega)]
    omega) h
theorem OpW.orByte {t t' : TypeId} {a b : Operand} {x : Nat} {c : UInt8} (hx : ev e a = .int .u64 ((256 * x : Nat) : Int)) (hy : ev e b = .int .u64 (c.toNat : Int)) (hl : x < 2 ^ 56) (h : K (.int .u64 ((256 * x + c.toNat : Nat) : Int)) w) : OpW P (.binOp .or t a b t') ty e w K :=
  OpW.bits (op := .or) _ hx hy (shl_or x c hl) (Or.inr (Or.inl rfl)) h
/-- Sums of 64 bits that fit. -/
theorem OpW.addU {t t' : TypeId} {x y : Operand} {a b : Int} (c : Int) (hx : ev e x = .int .u64 a) (hy : ev e y = .int .u64 b) (hc : a + b = c ∧ 0 ≤ c ∧ c ≤ 18446744073709551615) (h : K (.int .u64 c) w) : OpW P (.binOp .add t x y t') ty e w K :=
  OpW.add hx hy (by rw [hc.1, wrap_u64 hc.2.1 hc.2.2]; exact h)
end

/-! ### A reader, as the document has it: the bytes that are left, the fault -/
abbrev RS := List UInt8 × Int
/-- What n bytes at a place are; whether they are there; the fault. -/
def rNum (s : RS) (at' n : Nat) : Nat × Bool × RS :=
  if s.2 ≠ 0 then (0, false, s) else if s.1.length < at' + n then (0, false, (s.1, 20)) else (numOf ((s.1.drop at').take n), true, s)
def rN (s : RS) : Nat × RS :=
  let r := rNum s 0 8
  if r.2.1 then (r.1, (s.1.drop 8, s.2)) else (0, r.2.2)
def rCount (s : RS) (most : Int) : Int × RS :=
  let r := rNum s 0 8
  if r.2.1 then (if most < 0 ∨ most < (r.1 : Int) then (0, (s.1, 22)) else ((r.1 : Int), (s.1.drop 8, s.2))) else (0, r.2.2)
def rB (s : RS) : List UInt8 × RS :=
  let r := rNum s 0 4
  if r.2.1 then
    (if 65535 < r.1 then ([], (s.1, 22)) else
      let q := rNum s (4 + r.1) 0
      if q.2.1 then ((s.1.drop 4).take r.1, (s.1.drop (4 + r.1), s.2)) else ([], q.2.2))
  else ([], r.2.2)
def rF (s : RS) : Bool × RS :=
  let r := rNum s 0 1
  if r.2.1 then (if 1 < r.1 then (false, (s.1, 21)) else (decide (r.1 = 1), (s.1.drop 1, s.2))) else (false, r.2.2)
def rEnd (s : RS) : Int := if s.2 ≠ 0 then s.2 else if s.1 = [] then 0 else 23
end B
end Go.Proofs.Ytlofcomnhecgfaa
/- Regions whose order is drawn: those that only read and call (one walk), and those whose operations make memory. No conditions. -/
namespace Go.Proofs.Ytlofcomnhecgfaa
namespace B
set_option linter.unusedVariables false
set_option linter.unusedSimpArgs false

/-- Operations that hand back a value at once. -/
def valOp : Op → Bool
  | .move _ | .assign _ | .pick .. | .load .. | .binOp .. | .unOp .. | .convert .. | .slice .. | .fieldAddr .. | .field .. | .indexAddr .. | .index .. | .extract .. | .nilCheck _ => true
  | .call ⟨.builtin .len, _, _⟩ | .call ⟨.builtin .cap, _, _⟩ | .call ⟨.builtin .min, _, _⟩ | .call ⟨.builtin .max, _, _⟩ => true
  | _ => false

theorem val_of_sem {P : Program} {s : Sem Value} {w w' : World} {n : Next} (h : (do pure (Next.value (← s)) : Sem Next).run P w = .ok n w') : ∃ v, n = .value v := by
  rw [Sem.run_bind] at h
  cases hs : s.run P w with
  | ok a w1 => rw [hs] at h; simp [Result.andThen, Sem.run_pure] at h; exact ⟨a, h.1.symm⟩
  | halt x w1 => rw [hs] at h; simp [Result.andThen] at h

theorem not_enter {P : Program} {ρ : Operand → Value} {op : Op} {ty : TypeId} {w w' : World} {n : Next} (hv : valOp op = true) (h : (execOp ρ ⟨none, op, ty, "", #[], none⟩).run P w = .ok n w') : ∃ v, n = .value v := by
  cases op with
  | move x => simp [execOp, Sem.run_pure] at h; exact ⟨_, h.1.symm⟩
  | assign x => simp [execOp, Sem.run_pure] at h; exact ⟨_, h.1.symm⟩
  | pick c a b => exact val_of_sem (s := do pure (if ← asBool (ρ c) then ρ a else ρ b)) (by simpa [execOp] using h)
  | load t a => exact val_of_sem h
  | binOp o t x y t' => exact val_of_sem h
  | unOp o t x => exact val_of_sem h
  | convert s d x => exact val_of_sem h
  | slice t x l h' m => exact val_of_sem h
  | fieldAddr s x f => exact val_of_sem h
  | field s x f => exact val_of_sem h
  | indexAddr t x i => exact val_of_sem h
  | index t x i => exact val_of_sem h
  | extract x i => exact val_of_sem h
  | nilCheck x =>
    unfold execOp at h
    simp only at h
    split at h
    · simp [runtimePanic, Sem.run_bind, program, Sem.run, Result.andThen, goPanic] at h
    · simp [runtimePanic, Sem.run_bind, program, Sem.run, Result.andThen, goPanic] at h
    · simp [runtimePanic, Sem.run_bind, program, Sem.run, Result.andThen, goPanic] at h
    · split at h
      · simp [runtimePanic, Sem.run_bind, program, Sem.run, Result.andThen, goPanic] at h
      · rw [Sem.run_bind] at h
        simp only [program, Sem.run, Result.andThen] at h
        rw [Sem.run_bind] at h
        generalize (nilAhead _ _ _ _).run P w = r at h
        cases r with
        | halt x w1 => simp [Result.andThen] at h
        | ok b w1 =>
          simp only [Result.andThen, Sem.run_bind] at h
          split at h
          · simp [unsupported, Sem.run] at h
          · simp [Sem.run_pure] at h; exact ⟨_, h.1.symm⟩
      · simp [Sem.run_pure] at h; exact ⟨_, h.1.symm⟩
    · simp [Sem.run_pure] at h; exact ⟨_, h.1.symm⟩
  | call c =>
    obtain ⟨cal, args, ats⟩ := c
    cases cal with
    | builtin b =>
      cases b <;> first
        | exact Bool.noConfusion hv
        | (simp only [execOp, resolve, invoke, pure_bind, Go.builtin] at h; exact val_of_sem h)
    | value f => exact Bool.noConfusion hv
    | invoke r m => exact Bool.noConfusion hv
  | _ => exact Bool.noConfusion hv

section
variable {P : Program} {N : Nat} {Q : Post} {e : Env} {w w0 : World} {ops : Array Oper} {rest : List Oper} {ty : TypeId}

def QL (P : Program) (N : Nat) (ops : Array Oper) (w0 : World) (Q : Post) (l : List Oper) (e : Env) : Prop :=
  ∀ a, Rep N a e → wpQuiet P ops (fun w' => Grow w0 w') (fun a' => ∀ w', Grow w0 w' → lift N Q .normal a' w') l a

/-- One walk in the text's order serves every order: nothing is written, calls hand back one value and only make memory. -/
theorem CW.quiet {id : Nat} {l : List Oper} (hm : P.follows .mixedOrders = true) (hB : Region.lexB .any l.toArray = true) (h : QL P N l.toArray w Q l e) : CW P N (.region id l.toArray true) Q e w :=
  fun a ha => wp_region_quiet (C := fun w' => Grow w w') hm hB (Chg.drew (Chg.refl _ _)) (by simpa using h a ha)

theorem QL.nil (h : ∀ w', Grow w0 w' → Q .normal e w') : QL P N ops w0 Q [] e := fun a ha => wpQuiet_nil fun w' hw => ⟨e, ha, h w' hw⟩

theorem quiet_val {op : Op} {v : Value} {o : Oper} (ho : o.op = op) (hty : o.type = ty) {a : Act} (he : a.eval = ev e) (hv : valOp op = true) (h : ∀ w, Grow w0 w → OpW P op ty e w fun v' w' => v' = v ∧ w' = w) : ∀ w, Grow w0 w → o.quietAt P a (fun w' => Grow w0 w') w v := by
  intro w hg
  have h1 := h w hg
  unfold OpW at h1
  unfold Oper.quietAt
  have e1 : execOp a.eval o = execOp (ev e) ⟨none, op, ty, "", #[], none⟩ := by rw [he]; subst ho; subst hty; rfl
  rw [e1]
  cases hr : (execOp (ev e) ⟨none, op, ty, "", #[], none⟩).run P w with
  | ok n w' =>
    obtain ⟨u, rfl⟩ := not_enter hv hr
    rw [hr] at h1
    simp only [upon] at h1
    exact ⟨h1.2, h1.1⟩
  | halt x w' => rw [hr] at h1; simp only [upon] at h1

theorem quiet_call {f : FuncId} {args : Array Operand} {ats : Array TypeId} {vs : List Value} {v : Value} {o : Oper} [hf : CallT P f] (ho : o.op = .call ⟨.value (.func f), args, ats⟩) {a : Act} (he : a.eval = ev e) (h : ∀ w, Grow w0 w → Ret P f vs.toArray w fun v' w' => v' = v ∧ Grow w w') (hv : args.toList.map (ev e) = vs) : ∀ w, Grow w0 w → o.quietAt P a (fun w' => Grow w0 w') w v := by
  intro w hg
  have hv' : args.map (ev e) = vs.toArray := by subst hv; cases args; simp
  have h1 := h w hg
  unfold Oper.quietAt
  have : (execOp a.eval o).run P w = .ok (.enter f vs.toArray) w := by
    rw [he]
    simp [execOp, ho, resolve, ev, Deferred.ofValue, invoke, hf.h, hv']
  rw [this]
  exact ⟨rfl, Calls.mono h1 fun x w'' ⟨v', hx, h2, h3⟩ => ⟨by rw [hx, h2], hg.then h3⟩⟩

theorem QL.step {d : Nat} {op : Op} {v : Value} {pos : String} {after : Array Edge} (hd : Nat.blt d N = true) (hv : valOp op = true)
    (h : ∀ w, Grow w0 w → OpW P op ty e w fun v' w' => v' = v ∧ w' = w) (hn : QL P N ops w0 Q rest (upd e d v)) : QL P N ops w0 Q (⟨some d, op, ty, pos, after, none⟩ :: rest) e := by
  intro a ha
  refine wpQuiet_step fun K hK => ?_
  rw [if_pos (c := Region.wanted _ (yielded ops a.tmps) = true) rfl]
  exact ⟨v, quiet_val rfl rfl ha.eval hv h, hK _ (hn _ (ha.put (blt_lt hd) v))⟩
theorem QL.gstep {d j dj : Nat} {want : Bool} {op : Op} {v : Value} {pos : String} {after : Array Edge} (hj : (ops[j]?).bind (·.dst) = some dj) (hn' : Nat.blt dj N = true) (hd : Nat.blt d N = true) (hb : e dj = .bool want) (hv : valOp op = true)
    (h : ∀ w, Grow w0 w → OpW P op ty e w fun v' w' => v' = v ∧ w' = w) (hn : QL P N ops w0 Q rest (upd e d v)) : QL P N ops w0 Q (⟨some d, op, ty, pos, after, some (j, want)⟩ :: rest) e := by
  intro a ha
  refine wpQuiet_step fun K hK => ?_
  rw [if_pos (by rw [wanted_of (N := N) (e := e) ha rfl hj hn' hb]; simp)]
  exact ⟨v, quiet_val rfl rfl ha.eval hv h, hK _ (hn _ (ha.put (blt_lt hd) v))⟩
theorem QL.gskip {d j dj : Nat} {want : Bool} {op : Op} {pos : String} {after : Array Edge} (hj : (ops[j]?).bind (·.dst) = some dj) (hn' : Nat.blt dj N = true) (hd : Nat.blt d N = true) (hb : e dj = .bool (!want))
    (hn : QL P N ops w0 Q rest (upd e d undef)) : QL P N ops w0 Q (⟨some d, op, ty, pos, after, some (j, want)⟩ :: rest) e := by
  intro a ha
  refine wpQuiet_step fun K hK => ?_
  rw [if_neg (by rw [wanted_of (N := N) (e := e) ha rfl hj hn' hb]; cases want <;> simp)]
  exact hK _ (hn _ (ha.put (blt_lt hd) undef))
theorem QL.call {d : Nat} {f : FuncId} {args : Array Operand} {ats : Array TypeId} {vs : List Value} {v : Value} {pos : String} {after : Array Edge} [hf : CallT P f] (hd : Nat.blt d N = true)
    (h : ∀ w, Grow w0 w → Ret P f vs.toArray w fun v' w' => v' = v ∧ Grow w w') (hv : args.toList.map (ev e) = vs) (hn : QL P N ops w0 Q rest (upd e d v)) : QL P N ops w0 Q (⟨some d, .call ⟨.value (.func f), args, ats⟩, ty, pos, after, none⟩ :: rest) e := by
  intro a ha
  refine wpQuiet_step fun K hK => ?_
  rw [if_pos (c := Region.wanted _ (yielded ops a.tmps) = true) rfl]
  exact ⟨v, quiet_call rfl ha.eval h hv, hK _ (hn _ (ha.put (blt_lt hd) v))⟩
theorem QL.gcall {d j dj : Nat} {want : Bool} {f : FuncId} {args : Array Operand} {ats : Array TypeId} {vs : List Value} {v : Value} {pos : String} {after : Array Edge} [hf : CallT P f] (hj : (ops[j]?).bind (·.dst) = some dj) (hn' : Nat.blt dj N = true) (hd : Nat.blt d N = true) (hb : e dj = .bool want)
    (h : ∀ w, Grow w0 w → Ret P f vs.toArray w fun v' w' => v' = v ∧ Grow w w') (hv : args.toList.map (ev e) = vs) (hn : QL P N ops w0 Q rest (upd e d v)) : QL P N ops w0 Q (⟨some d, .call ⟨.value (.func f), args, ats⟩, ty, pos, after, some (j, want)⟩ :: rest) e := by
  intro a ha
  refine wpQuiet_step fun K hK => ?_
  rw [if_pos (by rw [wanted_of (N := N) (e := e) ha rfl hj hn' hb]; simp)]
  exact ⟨v, quiet_call rfl ha.eval h hv, hK _ (hn _ (ha.put (blt_lt hd) v))⟩
end
end B
end Go.Proofs.Ytlofcomnhecgfaa
/- One step of the walk by itself: the rules that need no hint. No conditions. -/
namespace Go.Proofs.Ytlofcomnhecgfaa
namespace B
set_option linter.unusedVariables false
section
variable {P : Program} {N : Nat} {Q : Post} {e : Env} {w w0 : World} {ops : Array Oper} {rest : List Oper} {ty : TypeId}
def OpV (P : Program) (op : Op) (ty : TypeId) (e : Env) (w : World) (v : Value) : Prop := ∀ K : Value → World → Prop, K v w → OpW P op ty e w K
attribute [local irreducible] OpW WL CW Ret Sl Blk thn blk outOf
theorem WL.auto {d : Nat} {op : Op} {v : Value} {pos : String} {after : Array Edge} (hd : Nat.blt d N = true := by rfl)
    (ho : OpV P op ty e w v := by
      intro K hK
      (first
 | (show OpW _ (.move _) _ _ _ _; first | exact OpW.move (v := .int _ _) rfl hK | exact OpW.move (v := .bool _) rfl hK | exact OpW.move (v := .slice _ _ _) rfl hK | exact OpW.move (v := .pointer _) rfl hK | exact OpW.move (v := .string _) rfl hK | exact OpW.move (v := .agg _) rfl hK | exact OpW.move (v := .tuple _) rfl hK | exact OpW.move (v := .func _ _ _) rfl hK)
 | (show OpW _ (.assign _) _ _ _ _; first | exact OpW.assign (v := .int _ _) rfl hK | exact OpW.assign (v := .bool _) rfl hK | exact OpW.assign (v := .slice _ _ _) rfl hK | exact OpW.assign (v := .pointer _) rfl hK | exact OpW.assign (v := .string _) rfl hK | exact OpW.assign (v := .agg _) rfl hK | exact OpW.assign (v := .tuple _) rfl hK | exact OpW.assign (v := .func _ _ _) rfl hK)
 | (show OpW _ (.nilCheck _) _ _ _ _; first | exact OpW.nilCheck rfl hK)
 | (show OpW _ (.fieldAddr _ _ _) _ _ _ _; first | exact OpW.fieldAddr rfl hK | exact OpW.fieldAddrS rfl (by assumption) hK)
 | (show OpW _ (.load _ _) _ _ _ _; first | exact OpW.load (v := .int _ _) rfl (by assumption) rfl hK | exact OpW.load (v := .slice _ _ _) rfl (by assumption) rfl hK | exact OpW.load (v := .bool _) rfl (by assumption) rfl hK | exact OpW.load (v := .pointer _) rfl (by assumption) rfl hK | exact OpW.load (v := .string _) rfl (by assumption) rfl hK | exact OpW.loadS rfl (by assumption) (by first | assumption | rfl) hK)
 | (show OpW _ (.binOp .lss _ _ _ _) _ _ _ _; first | exact OpW.lss rfl rfl hK | exact OpW.lssStr rfl rfl hK)
 | (show OpW _ (.binOp .leq _ _ _ _) _ _ _ _; first | exact OpW.leq rfl rfl hK)
 | (show OpW _ (.binOp .gtr _ _ _ _) _ _ _ _; first | exact OpW.gtr rfl rfl hK)
 | (show OpW _ (.binOp .geq _ _ _ _) _ _ _ _; first | exact OpW.geq rfl rfl hK)
 | (show OpW _ (.binOp .eql _ _ _ _) _ _ _ _; first | exact OpW.eqlI rfl rfl hK | exact OpW.eqlP rfl rfl hK | exact OpW.eqlS rfl rfl hK | exact OpW.eqlStr rfl rfl hK | exact OpW.eqlB rfl rfl hK)
 | (show OpW _ (.binOp .neq _ _ _ _) _ _ _ _; first | exact OpW.neqI rfl rfl hK | exact OpW.neqP rfl rfl hK | exact OpW.neqStr rfl rfl hK | exact OpW.neqB rfl rfl hK)
 | (show OpW _ (.binOp .add _ _ _ _) _ _ _ _; first | exact OpW.addI _ rfl rfl ⟨rfl, by omega, by omega⟩ hK | exact OpW.addU _ rfl rfl ⟨rfl, by omega, by omega⟩ hK | exact OpW.addS rfl rfl (by omega) hK)
 | (show OpW _ (.binOp .sub _ _ _ _) _ _ _ _; first | exact OpW.subI _ rfl rfl ⟨rfl, by omega, by omega⟩ hK)
 | (show OpW _ (.binOp .mul _ _ _ _) _ _ _ _; first | exact OpW.mulI _ rfl rfl ⟨rfl, by omega, by omega⟩ hK)
 | (show OpW _ (.convert _ _ _) _ _ _ _; first | exact OpW.convByte rfl hK | exact OpW.convU64 rfl ⟨by omega, by omega⟩ hK | exact OpW.convI64 rfl ⟨by omega, by omega⟩ hK)
 | (show OpW _ (.call ⟨.builtin .len, _, _⟩) _ _ _ _; first | exact OpW.len rfl hK | exact OpW.lenStr rfl hK)
 | (show OpW _ (.call ⟨.builtin .cap, _, _⟩) _ _ _ _; first | exact OpW.cap rfl hK)
 | (show OpW _ (.call ⟨.builtin .min, _, _⟩) _ _ _ _; first | exact OpW.min rfl rfl hK)
 | (show OpW _ (.call ⟨.builtin .max, _, _⟩) _ _ _ _; first | exact OpW.max rfl rfl hK)
 | (show OpW _ (.unOp .not _ _) _ _ _ _; first | exact OpW.notP rfl hK | exact OpW.not rfl hK)
 | (show OpW _ (.extract _ _) _ _ _ _; first | exact OpW.extract (v := .int _ _) rfl rfl hK | exact OpW.extract (v := .bool _) rfl rfl hK | exact OpW.extract (v := .slice _ _ _) rfl rfl hK | exact OpW.extract (v := .pointer _) rfl rfl hK | exact OpW.extract (v := .string _) rfl rfl hK | exact OpW.extract (v := .agg _) rfl rfl hK | exact OpW.extract (v := .tuple _) rfl rfl hK | exact OpW.extract (v := .func _ _ _) rfl rfl hK)
 | (show OpW _ (.pick _ _ _) _ _ _ _; first | exact OpW.pickT (v := .bool _) rfl rfl hK | exact OpW.pickF (v := .bool _) rfl rfl hK)))
    (h : WL P N ops Q rest (upd e d v) w) : WL P N ops Q (⟨some d, op, ty, pos, after, none⟩ :: rest) e w :=
  WL.step hd (ho _ h)
theorem WL.gauto {d j dj : Nat} {want : Bool} {op : Op} {v : Value} {pos : String} {after : Array Edge} (hj : (ops[j]?).bind (·.dst) = some dj := by rfl) (hn : Nat.blt dj N = true := by rfl) (hd : Nat.blt d N = true := by rfl)
    (hb : e dj = .bool want := by rfl)
    (ho : OpV P op ty e w v := by
      intro K hK
      (first
 | (show OpW _ (.move _) _ _ _ _; first | exact OpW.move (v := .int _ _) rfl hK | exact OpW.move (v := .bool _) rfl hK | exact OpW.move (v := .slice _ _ _) rfl hK | exact OpW.move (v := .pointer _) rfl hK | exact OpW.move (v := .string _) rfl hK | exact OpW.move (v := .agg _) rfl hK | exact OpW.move (v := .tuple _) rfl hK | exact OpW.move (v := .func _ _ _) rfl hK)
 | (show OpW _ (.assign _) _ _ _ _; first | exact OpW.assign (v := .int _ _) rfl hK | exact OpW.assign (v := .bool _) rfl hK | exact OpW.assign (v := .slice _ _ _) rfl hK | exact OpW.assign (v := .pointer _) rfl hK | exact OpW.assign (v := .string _) rfl hK | exact OpW.assign (v := .agg _) rfl hK | exact OpW.assign (v := .tuple _) rfl hK | exact OpW.assign (v := .func _ _ _) rfl hK)
 | (show OpW _ (.nilCheck _) _ _ _ _; first | exact OpW.nilCheck rfl hK)
 | (show OpW _ (.fieldAddr _ _ _) _ _ _ _; first | exact OpW.fieldAddr rfl hK | exact OpW.fieldAddrS rfl (by assumption) hK)
 | (show OpW _ (.load _ _) _ _ _ _; first | exact OpW.load (v := .int _ _) rfl (by assumption) rfl hK | exact OpW.load (v := .slice _ _ _) rfl (by assumption) rfl hK | exact OpW.load (v := .bool _) rfl (by assumption) rfl hK | exact OpW.load (v := .pointer _) rfl (by assumption) rfl hK | exact OpW.load (v := .string _) rfl (by assumption) rfl hK | exact OpW.loadS rfl (by assumption) (by first | assumption | rfl) hK)
 | (show OpW _ (.binOp .lss _ _ _ _) _ _ _ _; first | exact OpW.lss rfl rfl hK | exact OpW.lssStr rfl rfl hK)
 | (show OpW _ (.binOp .leq _ _ _ _) _ _ _ _; first | exact OpW.leq rfl rfl hK)
 | (show OpW _ (.binOp .gtr _ _ _ _) _ _ _ _; first | exact OpW.gtr rfl rfl hK)
 | (show OpW _ (.binOp .geq _ _ _ _) _ _ _ _; first | exact OpW.geq rfl rfl hK)
 | (show OpW _ (.binOp .eql _ _ _ _) _ _ _ _; first | exact OpW.eqlI rfl rfl hK | exact OpW.eqlP rfl rfl hK | exact OpW.eqlS rfl rfl hK | exact OpW.eqlStr rfl rfl hK | exact OpW.eqlB rfl rfl hK)
 | (show OpW _ (.binOp .neq _ _ _ _) _ _ _ _; first | exact OpW.neqI rfl rfl hK | exact OpW.neqP rfl rfl hK | exact OpW.neqStr rfl rfl hK | exact OpW.neqB rfl rfl hK)
 | (show OpW _ (.binOp .add _ _ _ _) _ _ _ _; first | exact OpW.addI _ rfl rfl ⟨rfl, by omega, by omega⟩ hK | exact OpW.addU _ rfl rfl ⟨rfl, by omega, by omega⟩ hK | exact OpW.addS rfl rfl (by omega) hK)
 | (show OpW _ (.binOp .sub _ _ _ _) _ _ _ _; first | exact OpW.subI _ rfl rfl ⟨rfl, by omega, by omega⟩ hK)
 | (show OpW _ (.binOp .mul _ _ _ _) _ _ _ _; first | exact OpW.mulI _ rfl rfl ⟨rfl, by omega, by omega⟩ hK)
 | (show OpW _ (.convert _ _ _) _ _ _ _; first | exact OpW.convByte rfl hK | exact OpW.convU64 rfl ⟨by omega, by omega⟩ hK | exact OpW.convI64 rfl ⟨by omega, by omega⟩ hK)
 | (show OpW _ (.call ⟨.builtin .len, _, _⟩) _ _ _ _; first | exact OpW.len rfl hK | exact OpW.lenStr rfl hK)
 | (show OpW _ (.call ⟨.builtin .cap, _, _⟩) _ _ _ _; first | exact OpW.cap rfl hK)
 | (show OpW _ (.call ⟨.builtin .min, _, _⟩) _ _ _ _; first | exact OpW.min rfl rfl hK)
 | (show OpW _ (.call ⟨.builtin .max, _, _⟩) _ _ _ _; first | exact OpW.max rfl rfl hK)
 | (show OpW _ (.unOp .not _ _) _ _ _ _; first | exact OpW.notP rfl hK | exact OpW.not rfl hK)
 | (show OpW _ (.extract _ _) _ _ _ _; first | exact OpW.extract (v := .int _ _) rfl rfl hK | exact OpW.extract (v := .bool _) rfl rfl hK | exact OpW.extract (v := .slice _ _ _) rfl rfl hK | exact OpW.extract (v := .pointer _) rfl rfl hK | exact OpW.extract (v := .string _) rfl rfl hK | exact OpW.extract (v := .agg _) rfl rfl hK | exact OpW.extract (v := .tuple _) rfl rfl hK | exact OpW.extract (v := .func _ _ _) rfl rfl hK)
 | (show OpW _ (.pick _ _ _) _ _ _ _; first | exact OpW.pickT (v := .bool _) rfl rfl hK | exact OpW.pickF (v := .bool _) rfl rfl hK)))
    (h : WL P N ops Q rest (upd e d v) w) : WL P N ops Q (⟨some d, op, ty, pos, after, some (j, want)⟩ :: rest) e w :=
  WL.gstep hj hn hd hb (ho _ h)
theorem QL.auto {d : Nat} {op : Op} {v : Value} {pos : String} {after : Array Edge} (hd : Nat.blt d N = true := by rfl) (hv : valOp op = true := by rfl)
    (ho : ∀ w, Grow w0 w → OpV P op ty e w v := by
      intro w hg K hK
      (first
 | (show OpW _ (.move _) _ _ _ _; first | exact OpW.move (v := .int _ _) rfl hK | exact OpW.move (v := .bool _) rfl hK | exact OpW.move (v := .slice _ _ _) rfl hK | exact OpW.move (v := .pointer _) rfl hK | exact OpW.move (v := .string _) rfl hK | exact OpW.move (v := .agg _) rfl hK | exact OpW.move (v := .tuple _) rfl hK | exact OpW.move (v := .func _ _ _) rfl hK)
 | (show OpW _ (.assign _) _ _ _ _; first | exact OpW.assign (v := .int _ _) rfl hK | exact OpW.assign (v := .bool _) rfl hK | exact OpW.assign (v := .slice _ _ _) rfl hK | exact OpW.assign (v := .pointer _) rfl hK | exact OpW.assign (v := .string _) rfl hK | exact OpW.assign (v := .agg _) rfl hK | exact OpW.assign (v := .tuple _) rfl hK | exact OpW.assign (v := .func _ _ _) rfl hK)
 | (show OpW _ (.nilCheck _) _ _ _ _; first | exact OpW.nilCheck rfl hK)
 | (show OpW _ (.fieldAddr _ _ _) _ _ _ _; first | exact OpW.fieldAddr rfl hK | exact OpW.fieldAddrS rfl (by assumption) hK)
 | (show OpW _ (.load _ _) _ _ _ _; first | exact OpW.load (v := .int _ _) rfl (Blk.grow (by assumption) hg) rfl hK | exact OpW.load (v := .slice _ _ _) rfl (Blk.grow (by assumption) hg) rfl hK | exact OpW.load (v := .bool _) rfl (Blk.grow (by assumption) hg) rfl hK | exact OpW.load (v := .pointer _) rfl (Blk.grow (by assumption) hg) rfl hK | exact OpW.load (v := .string _) rfl (Blk.grow (by assumption) hg) rfl hK | exact OpW.loadS rfl (Sl.grow (by assumption) hg) (by first | assumption | rfl) hK)
 | (show OpW _ (.binOp .lss _ _ _ _) _ _ _ _; first | exact OpW.lss rfl rfl hK | exact OpW.lssStr rfl rfl hK)
 | (show OpW _ (.binOp .leq _ _ _ _) _ _ _ _; first | exact OpW.leq rfl rfl hK)
 | (show OpW _ (.binOp .gtr _ _ _ _) _ _ _ _; first | exact OpW.gtr rfl rfl hK)
 | (show OpW _ (.binOp .geq _ _ _ _) _ _ _ _; first | exact OpW.geq rfl rfl hK)
 | (show OpW _ (.binOp .eql _ _ _ _) _ _ _ _; first | exact OpW.eqlI rfl rfl hK | exact OpW.eqlP rfl rfl hK | exact OpW.eqlS rfl rfl hK | exact OpW.eqlStr rfl rfl hK | exact OpW.eqlB rfl rfl hK)
 | (show OpW _ (.binOp .neq _ _ _ _) _ _ _ _; first | exact OpW.neqI rfl rfl hK | exact OpW.neqP rfl rfl hK | exact OpW.neqStr rfl rfl hK | exact OpW.neqB rfl rfl hK)
 | (show OpW _ (.binOp .add _ _ _ _) _ _ _ _; first | exact OpW.addI _ rfl rfl ⟨rfl, by omega, by omega⟩ hK | exact OpW.addU _ rfl rfl ⟨rfl, by omega, by omega⟩ hK | exact OpW.addS rfl rfl (by omega) hK)
 | (show OpW _ (.binOp .sub _ _ _ _) _ _ _ _; first | exact OpW.subI _ rfl rfl ⟨rfl, by omega, by omega⟩ hK)
 | (show OpW _ (.binOp .mul _ _ _ _) _ _ _ _; first | exact OpW.mulI _ rfl rfl ⟨rfl, by omega, by omega⟩ hK)
 | (show OpW _ (.convert _ _ _) _ _ _ _; first | exact OpW.convByte rfl hK | exact OpW.convU64 rfl ⟨by omega, by omega⟩ hK | exact OpW.convI64 rfl ⟨by omega, by omega⟩ hK)
 | (show OpW _ (.call ⟨.builtin .len, _, _⟩) _ _ _ _; first | exact OpW.len rfl hK | exact OpW.lenStr rfl hK)
 | (show OpW _ (.call ⟨.builtin .cap, _, _⟩) _ _ _ _; first | exact OpW.cap rfl hK)
 | (show OpW _ (.call ⟨.builtin .min, _, _⟩) _ _ _ _; first | exact OpW.min rfl rfl hK)
 | (show OpW _ (.call ⟨.builtin .max, _, _⟩) _ _ _ _; first | exact OpW.max rfl rfl hK)
 | (show OpW _ (.unOp .not _ _) _ _ _ _; first | exact OpW.notP rfl hK | exact OpW.not rfl hK)
 | (show OpW _ (.extract _ _) _ _ _ _; first | exact OpW.extract (v := .int _ _) rfl rfl hK | exact OpW.extract (v := .bool _) rfl rfl hK | exact OpW.extract (v := .slice _ _ _) rfl rfl hK | exact OpW.extract (v := .pointer _) rfl rfl hK | exact OpW.extract (v := .string _) rfl rfl hK | exact OpW.extract (v := .agg _) rfl rfl hK | exact OpW.extract (v := .tuple _) rfl rfl hK | exact OpW.extract (v := .func _ _ _) rfl rfl hK)
 | (show OpW _ (.pick _ _ _) _ _ _ _; first | exact OpW.pickT (v := .bool _) rfl rfl hK | exact OpW.pickF (v := .bool _) rfl rfl hK)))
    (hn : QL P N ops w0 Q rest (upd e d v)) : QL P N ops w0 Q (⟨some d, op, ty, pos, after, none⟩ :: rest) e :=
  QL.step hd hv (fun w hg => ho w hg _ ⟨rfl, rfl⟩) hn
theorem QL.gauto {d j dj : Nat} {want : Bool} {op : Op} {v : Value} {pos : String} {after : Array Edge} (hj : (ops[j]?).bind (·.dst) = some dj := by rfl) (hn' : Nat.blt dj N = true := by rfl) (hd : Nat.blt d N = true := by rfl) (hb : e dj = .bool want := by rfl) (hv : valOp op = true := by rfl)
    (ho : ∀ w, Grow w0 w → OpV P op ty e w v := by
      intro w hg K hK
      (first
 | (show OpW _ (.move _) _ _ _ _; first | exact OpW.move (v := .int _ _) rfl hK | exact OpW.move (v := .bool _) rfl hK | exact OpW.move (v := .slice _ _ _) rfl hK | exact OpW.move (v := .pointer _) rfl hK | exact OpW.move (v := .string _) rfl hK | exact OpW.move (v := .agg _) rfl hK | exact OpW.move (v := .tuple _) rfl hK | exact OpW.move (v := .func _ _ _) rfl hK)
 | (show OpW _ (.assign _) _ _ _ _; first | exact OpW.assign (v := .int _ _) rfl hK | exact OpW.assign (v := .bool _) rfl hK | exact OpW.assign (v := .slice _ _ _) rfl hK | exact OpW.assign (v := .pointer _) rfl hK | exact OpW.assign (v := .string _) rfl hK | exact OpW.assign (v := .agg _) rfl hK | exact OpW.assign (v := .tuple _) rfl hK | exact OpW.assign (v := .func _ _ _) rfl hK)
 | (show OpW _ (.nilCheck _) _ _ _ _; first | exact OpW.nilCheck rfl hK)
 | (show OpW _ (.fieldAddr _ _ _) _ _ _ _; first | exact OpW.fieldAddr rfl hK | exact OpW.fieldAddrS rfl (by assumption) hK)
 | (show OpW _ (.load _ _) _ _ _ _; first | exact OpW.load (v := .int _ _) rfl (Blk.grow (by assumption) hg) rfl hK | exact OpW.load (v := .slice _ _ _) rfl (Blk.grow (by assumption) hg) rfl hK | exact OpW.load (v := .bool _) rfl (Blk.grow (by assumption) hg) rfl hK | exact OpW.load (v := .pointer _) rfl (Blk.grow (by assumption) hg) rfl hK | exact OpW.load (v := .string _) rfl (Blk.grow (by assumption) hg) rfl hK | exact OpW.loadS rfl (Sl.grow (by assumption) hg) (by first | assumption | rfl) hK)
 | (show OpW _ (.binOp .lss _ _ _ _) _ _ _ _; first | exact OpW.lss rfl rfl hK | exact OpW.lssStr rfl rfl hK)
 | (show OpW _ (.binOp .leq _ _ _ _) _ _ _ _; first | exact OpW.leq rfl rfl hK)
 | (show OpW _ (.binOp .gtr _ _ _ _) _ _ _ _; first | exact OpW.gtr rfl rfl hK)
 | (show OpW _ (.binOp .geq _ _ _ _) _ _ _ _; first | exact OpW.geq rfl rfl hK)
 | (show OpW _ (.binOp .eql _ _ _ _) _ _ _ _; first | exact OpW.eqlI rfl rfl hK | exact OpW.eqlP rfl rfl hK | exact OpW.eqlS rfl rfl hK | exact OpW.eqlStr rfl rfl hK | exact OpW.eqlB rfl rfl hK)
 | (show OpW _ (.binOp .neq _ _ _ _) _ _ _ _; first | exact OpW.neqI rfl rfl hK | exact OpW.neqP rfl rfl hK | exact OpW.neqStr rfl rfl hK | exact OpW.neqB rfl rfl hK)
 | (show OpW _ (.binOp .add _ _ _ _) _ _ _ _; first | exact OpW.addI _ rfl rfl ⟨rfl, by omega, by omega⟩ hK | exact OpW.addU _ rfl rfl ⟨rfl, by omega, by omega⟩ hK | exact OpW.addS rfl rfl (by omega) hK)
 | (show OpW _ (.binOp .sub _ _ _ _) _ _ _ _; first | exact OpW.subI _ rfl rfl ⟨rfl, by omega, by omega⟩ hK)
 | (show OpW _ (.binOp .mul _ _ _ _) _ _ _ _; first | exact OpW.mulI _ rfl rfl ⟨rfl, by omega, by omega⟩ hK)
 | (show OpW _ (.convert _ _ _) _ _ _ _; first | exact OpW.convByte rfl hK | exact OpW.convU64 rfl ⟨by omega, by omega⟩ hK | exact OpW.convI64 rfl ⟨by omega, by omega⟩ hK)
 | (show OpW _ (.call ⟨.builtin .len, _, _⟩) _ _ _ _; first | exact OpW.len rfl hK | exact OpW.lenStr rfl hK)
 | (show OpW _ (.call ⟨.builtin .cap, _, _⟩) _ _ _ _; first | exact OpW.cap rfl hK)
 | (show OpW _ (.call ⟨.builtin .min, _, _⟩) _ _ _ _; first | exact OpW.min rfl rfl hK)
 | (show OpW _ (.call ⟨.builtin .max, _, _⟩) _ _ _ _; first | exact OpW.max rfl rfl hK)
 | (show OpW _ (.unOp .not _ _) _ _ _ _; first | exact OpW.notP rfl hK | exact OpW.not rfl hK)
 | (show OpW _ (.extract _ _) _ _ _ _; first | exact OpW.extract (v := .int _ _) rfl rfl hK | exact OpW.extract (v := .bool _) rfl rfl hK | exact OpW.extract (v := .slice _ _ _) rfl rfl hK | exact OpW.extract (v := .pointer _) rfl rfl hK | exact OpW.extract (v := .string _) rfl rfl hK | exact OpW.extract (v := .agg _) rfl rfl hK | exact OpW.extract (v := .tuple _) rfl rfl hK | exact OpW.extract (v := .func _ _ _) rfl rfl hK)
 | (show OpW _ (.pick _ _ _) _ _ _ _; first | exact OpW.pickT (v := .bool _) rfl rfl hK | exact OpW.pickF (v := .bool _) rfl rfl hK)))
    (hn : QL P N ops w0 Q rest (upd e d v)) : QL P N ops w0 Q (⟨some d, op, ty, pos, after, some (j, want)⟩ :: rest) e :=
  QL.gstep hj hn' hd hb hv (fun w hg => ho w hg _ ⟨rfl, rfl⟩) hn
end
end B
end Go.Proofs.Ytlofcomnhecgfaa
/- What the program's types are, and which of its functions have bodies. No conditions. -/
namespace Go.Proofs.Ytlofcomnhecgfaa
namespace B
instance : ZeroT Try.prog 0 (Go.Value.tuple #[]) := ⟨Try.zeroValue0⟩
instance : SizeT Try.prog 0 1 := ⟨Try.sizeOf0⟩
instance : Plain Try.prog 0 := ⟨Try.isAgg0⟩
instance : ZeroT Try.prog 1 Go.Value.nilFunc := ⟨Try.zeroValue1⟩
instance : SizeT Try.prog 1 1 := ⟨Try.sizeOf1⟩
instance : Plain Try.prog 1 := ⟨Try.isAgg1⟩
instance : ZeroT Try.prog 2 (Go.Value.int Go.IntKind.i64 0) := ⟨Try.zeroValue2⟩
instance : SizeT Try.prog 2 1 := ⟨Try.sizeOf2⟩
instance : Plain Try.prog 2 := ⟨Try.isAgg2⟩
instance : IntT Try.prog 2 Go.IntKind.i64 := ⟨Try.runUnderlying2⟩
instance : ZeroT Try.prog 3 (Go.Value.int Go.IntKind.i64 0) := ⟨Try.zeroValue3⟩
instance : SizeT Try.prog 3 1 := ⟨Try.sizeOf3⟩
instance : Plain Try.prog 3 := ⟨Try.isAgg3⟩
instance : IntT Try.prog 3 Go.IntKind.i64 := ⟨Try.runUnderlying3⟩
instance : ZeroT Try.prog 4 (Go.Value.bool false) := ⟨Try.zeroValue4⟩
instance : SizeT Try.prog 4 1 := ⟨Try.sizeOf4⟩
instance : Plain Try.prog 4 := ⟨Try.isAgg4⟩
instance : BoolT Try.prog 4 := ⟨Try.runUnderlying4⟩
instance : ZeroT Try.prog 5 (Go.Value.int Go.IntKind.u8 0) := ⟨Try.zeroValue5⟩
instance : SizeT Try.prog 5 1 := ⟨Try.sizeOf5⟩
instance : Plain Try.prog 5 := ⟨Try.isAgg5⟩
instance : IntT Try.prog 5 Go.IntKind.u8 := ⟨Try.runUnderlying5⟩
instance : ZeroT Try.prog 6 (Go.Value.int Go.IntKind.u8 0) := ⟨Try.zeroValue6⟩
instance : SizeT Try.prog 6 1 := ⟨Try.sizeOf6⟩
instance : Plain Try.prog 6 := ⟨Try.isAgg6⟩
instance : IntT Try.prog 6 Go.IntKind.u8 := ⟨Try.runUnderlying6⟩
instance : ZeroT Try.prog 7 (Go.Value.agg #[Go.Value.int Go.IntKind.i64 0, Go.Value.int Go.IntKind.i64 0, Go.Value.bool false, Go.Value.int Go.IntKind.u8 0]) := ⟨Try.zeroValue7⟩
instance : SizeT Try.prog 7 4 := ⟨Try.sizeOf7⟩
instance : AggT Try.prog 7 4 := ⟨Try.isAgg7, Try.sizeOf7⟩
instance : FieldT Try.prog 7 0 0 := ⟨_, _, 1, Try.runUnderlying7, rfl, rfl, Try.sizeOf2, by decide⟩
instance : FieldT Try.prog 7 1 1 := ⟨_, _, 1, Try.runUnderlying7, rfl, rfl, Try.sizeOf3, by decide⟩
instance : FieldT Try.prog 7 2 2 := ⟨_, _, 1, Try.runUnderlying7, rfl, rfl, Try.sizeOf4, by decide⟩
instance : FieldT Try.prog 7 3 3 := ⟨_, _, 1, Try.runUnderlying7, rfl, rfl, Try.sizeOf6, by decide⟩
instance : ZeroT Try.prog 8 (Go.Value.agg #[Go.Value.int Go.IntKind.i64 0, Go.Value.int Go.IntKind.i64 0, Go.Value.bool false, Go.Value.int Go.IntKind.u8 0]) := ⟨Try.zeroValue8⟩
instance : SizeT Try.prog 8 4 := ⟨Try.sizeOf8⟩
instance : AggT Try.prog 8 4 := ⟨Try.isAgg8, Try.sizeOf8⟩
instance : FieldT Try.prog 8 0 0 := ⟨_, _, 1, Try.runUnderlying8, rfl, rfl, Try.sizeOf2, by decide⟩
instance : FieldT Try.prog 8 1 1 := ⟨_, _, 1, Try.runUnderlying8, rfl, rfl, Try.sizeOf3, by decide⟩
instance : FieldT Try.prog 8 2 2 := ⟨_, _, 1, Try.runUnderlying8, rfl, rfl, Try.sizeOf4, by decide⟩
instance : FieldT Try.prog 8 3 3 := ⟨_, _, 1, Try.runUnderlying8, rfl, rfl, Try.sizeOf6, by decide⟩
instance : ZeroT Try.prog 9 (Go.Value.string { data := #[] }) := ⟨Try.zeroValue9⟩
instance : SizeT Try.prog 9 1 := ⟨Try.sizeOf9⟩
instance : Plain Try.prog 9 := ⟨Try.isAgg9⟩
instance : StrT Try.prog 9 := ⟨Try.runUnderlying9⟩
instance : ZeroT Try.prog 10 (Go.Value.string { data := #[] }) := ⟨Try.zeroValue10⟩
instance : SizeT Try.prog 10 1 := ⟨Try.sizeOf10⟩
instance : Plain Try.prog 10 := ⟨Try.isAgg10⟩
instance : StrT Try.prog 10 := ⟨Try.runUnderlying10⟩
instance : ZeroT Try.prog 11 (Go.Value.string { data := #[] }) := ⟨Try.zeroValue11⟩
instance : SizeT Try.prog 11 1 := ⟨Try.sizeOf11⟩
instance : Plain Try.prog 11 := ⟨Try.isAgg11⟩
instance : StrT Try.prog 11 := ⟨Try.runUnderlying11⟩
instance : ZeroT Try.prog 12 (Go.Value.int Go.IntKind.u64 0) := ⟨Try.zeroValue12⟩
instance : SizeT Try.prog 12 1 := ⟨Try.sizeOf12⟩
instance : Plain Try.prog 12 := ⟨Try.isAgg12⟩
instance : IntT Try.prog 12 Go.IntKind.u64 := ⟨Try.runUnderlying12⟩
instance : ZeroT Try.prog 13 (Go.Value.agg #[Go.Value.string { data := #[] }, Go.Value.int Go.IntKind.u64 0]) := ⟨Try.zeroValue13⟩
instance : SizeT Try.prog 13 2 := ⟨Try.sizeOf13⟩
instance : AggT Try.prog 13 2 := ⟨Try.isAgg13, Try.sizeOf13⟩
instance : FieldT Try.prog 13 0 0 := ⟨_, _, 1, Try.runUnderlying13, rfl, rfl, Try.sizeOf9, by decide⟩
instance : FieldT Try.prog 13 1 1 := ⟨_, _, 1, Try.runUnderlying13, rfl, rfl, Try.sizeOf12, by decide⟩
instance : ZeroT Try.prog 14 (Go.Value.agg #[Go.Value.string { data := #[] }, Go.Value.int Go.IntKind.u64 0]) := ⟨Try.zeroValue14⟩
instance : SizeT Try.prog 14 2 := ⟨Try.sizeOf14⟩
instance : AggT Try.prog 14 2 := ⟨Try.isAgg14, Try.sizeOf14⟩
instance : FieldT Try.prog 14 0 0 := ⟨_, _, 1, Try.runUnderlying14, rfl, rfl, Try.sizeOf9, by decide⟩
instance : FieldT Try.prog 14 1 1 := ⟨_, _, 1, Try.runUnderlying14, rfl, rfl, Try.sizeOf12, by decide⟩
instance : ZeroT Try.prog 15 (Go.Value.pointer none) := ⟨Try.zeroValue15⟩
instance : SizeT Try.prog 15 1 := ⟨Try.sizeOf15⟩
instance : Plain Try.prog 15 := ⟨Try.isAgg15⟩
instance : PtrT Try.prog 15 139 := ⟨Try.runUnderlying15⟩
instance : ZeroT Try.prog 16 (Go.Value.pointer none) := ⟨Try.zeroValue16⟩
instance : SizeT Try.prog 16 1 := ⟨Try.sizeOf16⟩
instance : Plain Try.prog 16 := ⟨Try.isAgg16⟩
instance : PtrT Try.prog 16 142 := ⟨Try.runUnderlying16⟩
instance : ZeroT Try.prog 17 (Go.Value.pointer none) := ⟨Try.zeroValue17⟩
instance : SizeT Try.prog 17 1 := ⟨Try.sizeOf17⟩
instance : Plain Try.prog 17 := ⟨Try.isAgg17⟩
instance : PtrT Try.prog 17 151 := ⟨Try.runUnderlying17⟩
instance : ZeroT Try.prog 18 (Go.Value.agg #[Go.Value.pointer none]) := ⟨Try.zeroValue18⟩
instance : SizeT Try.prog 18 1 := ⟨Try.sizeOf18⟩
instance : AggT Try.prog 18 1 := ⟨Try.isAgg18, Try.sizeOf18⟩
instance : FieldT Try.prog 18 0 0 := ⟨_, _, 1, Try.runUnderlying18, rfl, rfl, Try.sizeOf17, by decide⟩
instance : ZeroT Try.prog 19 (Go.Value.agg #[Go.Value.pointer none]) := ⟨Try.zeroValue19⟩
instance : SizeT Try.prog 19 1 := ⟨Try.sizeOf19⟩
instance : AggT Try.prog 19 1 := ⟨Try.isAgg19, Try.sizeOf19⟩
instance : FieldT Try.prog 19 0 0 := ⟨_, _, 1, Try.runUnderlying19, rfl, rfl, Try.sizeOf17, by decide⟩
instance : ZeroT Try.prog 20 Go.Value.nilIface := ⟨Try.zeroValue20⟩
instance : SizeT Try.prog 20 1 := ⟨Try.sizeOf20⟩
instance : Plain Try.prog 20 := ⟨Try.isAgg20⟩
instance : ZeroT Try.prog 21 (Go.Value.int Go.IntKind.i32 0) := ⟨Try.zeroValue21⟩
instance : SizeT Try.prog 21 1 := ⟨Try.sizeOf21⟩
instance : Plain Try.prog 21 := ⟨Try.isAgg21⟩
instance : IntT Try.prog 21 Go.IntKind.i32 := ⟨Try.runUnderlying21⟩
instance : ZeroT Try.prog 22 (Go.Value.slice none 0 0) := ⟨Try.zeroValue22⟩
instance : SizeT Try.prog 22 1 := ⟨Try.sizeOf22⟩
instance : Plain Try.prog 22 := ⟨Try.isAgg22⟩
instance : SliceT Try.prog 22 5 := ⟨Try.runUnderlying22⟩
instance : ElemT Try.prog 22 5 1 1 (Go.Value.int Go.IntKind.u8 0) := ⟨Try.underlying22, ⟨Try.t5, by kernel_rfl, rfl, rfl, rfl, rfl, by decide⟩⟩
instance : ZeroT Try.prog 23 (Go.Value.int Go.IntKind.u64 0) := ⟨Try.zeroValue23⟩
instance : SizeT Try.prog 23 1 := ⟨Try.sizeOf23⟩
instance : Plain Try.prog 23 := ⟨Try.isAgg23⟩
instance : IntT Try.prog 23 Go.IntKind.u64 := ⟨Try.runUnderlying23⟩
instance : ZeroT Try.prog 24 (Go.Value.agg #[Go.Value.int Go.IntKind.i64 0, Go.Value.int Go.IntKind.i64 0, Go.Value.int Go.IntKind.u64 0, Go.Value.slice none 0 0, Go.Value.bool false]) := ⟨Try.zeroValue24⟩
instance : SizeT Try.prog 24 5 := ⟨Try.sizeOf24⟩
instance : AggT Try.prog 24 5 := ⟨Try.isAgg24, Try.sizeOf24⟩
instance : FieldT Try.prog 24 0 0 := ⟨_, _, 1, Try.runUnderlying24, rfl, rfl, Try.sizeOf3, by decide⟩
instance : FieldT Try.prog 24 1 1 := ⟨_, _, 1, Try.runUnderlying24, rfl, rfl, Try.sizeOf3, by decide⟩
instance : FieldT Try.prog 24 2 2 := ⟨_, _, 1, Try.runUnderlying24, rfl, rfl, Try.sizeOf23, by decide⟩
instance : FieldT Try.prog 24 3 3 := ⟨_, _, 1, Try.runUnderlying24, rfl, rfl, Try.sizeOf22, by decide⟩
instance : FieldT Try.prog 24 4 4 := ⟨_, _, 1, Try.runUnderlying24, rfl, rfl, Try.sizeOf4, by decide⟩
instance : PlacesT Try.prog 24 #[(0, 1), (1, 1), (2, 1), (3, 1), (4, 1)] (Go.Value.agg #[Go.Value.int Go.IntKind.i64 0, Go.Value.int Go.IntKind.i64 0, Go.Value.int Go.IntKind.u64 0, Go.Value.slice none 0 0, Go.Value.bool false]) := ⟨⟨_, Try.runUnderlying24, fun w => by kernel_rfl⟩, Try.zeroValue24⟩
instance : ZeroT Try.prog 25 (Go.Value.agg #[Go.Value.int Go.IntKind.i64 0, Go.Value.int Go.IntKind.i64 0, Go.Value.int Go.IntKind.u64 0, Go.Value.slice none 0 0, Go.Value.bool false]) := ⟨Try.zeroValue25⟩
instance : SizeT Try.prog 25 5 := ⟨Try.sizeOf25⟩
instance : AggT Try.prog 25 5 := ⟨Try.isAgg25, Try.sizeOf25⟩
instance : FieldT Try.prog 25 0 0 := ⟨_, _, 1, Try.runUnderlying25, rfl, rfl, Try.sizeOf3, by decide⟩
instance : FieldT Try.prog 25 1 1 := ⟨_, _, 1, Try.runUnderlying25, rfl, rfl, Try.sizeOf3, by decide⟩
instance : FieldT Try.prog 25 2 2 := ⟨_, _, 1, Try.runUnderlying25, rfl, rfl, Try.sizeOf23, by decide⟩
instance : FieldT Try.prog 25 3 3 := ⟨_, _, 1, Try.runUnderlying25, rfl, rfl, Try.sizeOf22, by decide⟩
instance : FieldT Try.prog 25 4 4 := ⟨_, _, 1, Try.runUnderlying25, rfl, rfl, Try.sizeOf4, by decide⟩
instance : PlacesT Try.prog 25 #[(0, 1), (1, 1), (2, 1), (3, 1), (4, 1)] (Go.Value.agg #[Go.Value.int Go.IntKind.i64 0, Go.Value.int Go.IntKind.i64 0, Go.Value.int Go.IntKind.u64 0, Go.Value.slice none 0 0, Go.Value.bool false]) := ⟨⟨_, Try.runUnderlying25, fun w => by kernel_rfl⟩, Try.zeroValue25⟩
instance : ZeroT Try.prog 26 Go.Value.nilFunc := ⟨Try.zeroValue26⟩
instance : SizeT Try.prog 26 1 := ⟨Try.sizeOf26⟩
instance : Plain Try.prog 26 := ⟨Try.isAgg26⟩
instance : ZeroT Try.prog 27 Go.Value.nilFunc := ⟨Try.zeroValue27⟩
instance : SizeT Try.prog 27 1 := ⟨Try.sizeOf27⟩
instance : Plain Try.prog 27 := ⟨Try.isAgg27⟩
instance : ZeroT Try.prog 28 Go.Value.nilFunc := ⟨Try.zeroValue28⟩
instance : SizeT Try.prog 28 1 := ⟨Try.sizeOf28⟩
instance : Plain Try.prog 28 := ⟨Try.isAgg28⟩
instance : ZeroT Try.prog 29 Go.Value.nilFunc := ⟨Try.zeroValue29⟩
instance : SizeT Try.prog 29 1 := ⟨Try.sizeOf29⟩
instance : Plain Try.prog 29 := ⟨Try.isAgg29⟩
instance : ZeroT Try.prog 30 Go.Value.nilFunc := ⟨Try.zeroValue30⟩
instance : SizeT Try.prog 30 1 := ⟨Try.sizeOf30⟩
instance : Plain Try.prog 30 := ⟨Try.isAgg30⟩
instance : ZeroT Try.prog 31 Go.Value.nilFunc := ⟨Try.zeroValue31⟩
instance : SizeT Try.prog 31 1 := ⟨Try.sizeOf31⟩
instance : Plain Try.prog 31 := ⟨Try.isAgg31⟩
instance : ZeroT Try.prog 32 Go.Value.nilFunc := ⟨Try.zeroValue32⟩
instance : SizeT Try.prog 32 1 := ⟨Try.sizeOf32⟩
instance : Plain Try.prog 32 := ⟨Try.isAgg32⟩
instance : ZeroT Try.prog 33 (Go.Value.pointer none) := ⟨Try.zeroValue33⟩
instance : SizeT Try.prog 33 1 := ⟨Try.sizeOf33⟩
instance : Plain Try.prog 33 := ⟨Try.isAgg33⟩
instance : PtrT Try.prog 33 102 := ⟨Try.runUnderlying33⟩
instance : ZeroT Try.prog 34 Go.Value.nilFunc := ⟨Try.zeroValue34⟩
instance : SizeT Try.prog 34 1 := ⟨Try.sizeOf34⟩
instance : Plain Try.prog 34 := ⟨Try.isAgg34⟩
instance : ZeroT Try.prog 35 Go.Value.nilFunc := ⟨Try.zeroValue35⟩
instance : SizeT Try.prog 35 1 := ⟨Try.sizeOf35⟩
instance : Plain Try.prog 35 := ⟨Try.isAgg35⟩
instance : ZeroT Try.prog 36 (Go.Value.int Go.IntKind.i64 0) := ⟨Try.zeroValue36⟩
instance : SizeT Try.prog 36 1 := ⟨Try.sizeOf36⟩
instance : Plain Try.prog 36 := ⟨Try.isAgg36⟩
instance : IntT Try.prog 36 Go.IntKind.i64 := ⟨Try.runUnderlying36⟩
instance : ZeroT Try.prog 37 Go.Value.nilFunc := ⟨Try.zeroValue37⟩
instance : SizeT Try.prog 37 1 := ⟨Try.sizeOf37⟩
instance : Plain Try.prog 37 := ⟨Try.isAgg37⟩
instance : ZeroT Try.prog 38 Go.Value.nilFunc := ⟨Try.zeroValue38⟩
instance : SizeT Try.prog 38 1 := ⟨Try.sizeOf38⟩
instance : Plain Try.prog 38 := ⟨Try.isAgg38⟩
instance : ZeroT Try.prog 39 (Go.Value.slice none 0 0) := ⟨Try.zeroValue39⟩
instance : SizeT Try.prog 39 1 := ⟨Try.sizeOf39⟩
instance : Plain Try.prog 39 := ⟨Try.isAgg39⟩
instance : SliceT Try.prog 39 52 := ⟨Try.runUnderlying39⟩
instance : ElemT Try.prog 39 52 2 40 (Go.Value.agg #[Go.Value.string { data := #[] }, Go.Value.slice none 0 0]) := ⟨Try.underlying39, ⟨Try.t52, by kernel_rfl, rfl, rfl, rfl, rfl, by decide⟩⟩
instance : ZeroT Try.prog 40 (Go.Value.tuple #[Go.Value.pointer none, Go.Value.int Go.IntKind.i64 0]) := ⟨Try.zeroValue40⟩
instance : SizeT Try.prog 40 1 := ⟨Try.sizeOf40⟩
instance : Plain Try.prog 40 := ⟨Try.isAgg40⟩
instance : ZeroT Try.prog 41 Go.Value.nilFunc := ⟨Try.zeroValue41⟩
instance : SizeT Try.prog 41 1 := ⟨Try.sizeOf41⟩
instance : Plain Try.prog 41 := ⟨Try.isAgg41⟩
instance : ZeroT Try.prog 42 (Go.Value.pointer none) := ⟨Try.zeroValue42⟩
instance : SizeT Try.prog 42 1 := ⟨Try.sizeOf42⟩
instance : Plain Try.prog 42 := ⟨Try.isAgg42⟩
instance : PtrT Try.prog 42 79 := ⟨Try.runUnderlying42⟩
instance : ZeroT Try.prog 43 (Go.Value.tuple #[Go.Value.pointer none, Go.Value.int Go.IntKind.i64 0]) := ⟨Try.zeroValue43⟩
instance : SizeT Try.prog 43 1 := ⟨Try.sizeOf43⟩
instance : Plain Try.prog 43 := ⟨Try.isAgg43⟩
instance : ZeroT Try.prog 44 Go.Value.nilFunc := ⟨Try.zeroValue44⟩
instance : SizeT Try.prog 44 1 := ⟨Try.sizeOf44⟩
instance : Plain Try.prog 44 := ⟨Try.isAgg44⟩
instance : ZeroT Try.prog 45 Go.Value.nilFunc := ⟨Try.zeroValue45⟩
instance : SizeT Try.prog 45 1 := ⟨Try.sizeOf45⟩
instance : Plain Try.prog 45 := ⟨Try.isAgg45⟩
instance : ZeroT Try.prog 46 Go.Value.nilFunc := ⟨Try.zeroValue46⟩
instance : SizeT Try.prog 46 1 := ⟨Try.sizeOf46⟩
instance : Plain Try.prog 46 := ⟨Try.isAgg46⟩
instance : ZeroT Try.prog 47 Go.Value.nilFunc := ⟨Try.zeroValue47⟩
instance : SizeT Try.prog 47 1 := ⟨Try.sizeOf47⟩
instance : Plain Try.prog 47 := ⟨Try.isAgg47⟩
instance : ZeroT Try.prog 48 Go.Value.nilFunc := ⟨Try.zeroValue48⟩
instance : SizeT Try.prog 48 1 := ⟨Try.sizeOf48⟩
instance : Plain Try.prog 48 := ⟨Try.isAgg48⟩
instance : ZeroT Try.prog 49 (Go.Value.slice none 0 0) := ⟨Try.zeroValue49⟩
instance : SizeT Try.prog 49 1 := ⟨Try.sizeOf49⟩
instance : Plain Try.prog 49 := ⟨Try.isAgg49⟩
instance : SliceT Try.prog 49 4 := ⟨Try.runUnderlying49⟩
instance : ElemT Try.prog 49 4 1 1 (Go.Value.bool false) := ⟨Try.underlying49, ⟨Try.t4, by kernel_rfl, rfl, rfl, rfl, rfl, by decide⟩⟩
instance : ZeroT Try.prog 50 Go.Value.nilFunc := ⟨Try.zeroValue50⟩
instance : SizeT Try.prog 50 1 := ⟨Try.sizeOf50⟩
instance : Plain Try.prog 50 := ⟨Try.isAgg50⟩
instance : ZeroT Try.prog 51 (Go.Value.agg #[Go.Value.string { data := #[] }, Go.Value.slice none 0 0]) := ⟨Try.zeroValue51⟩
instance : SizeT Try.prog 51 2 := ⟨Try.sizeOf51⟩
instance : AggT Try.prog 51 2 := ⟨Try.isAgg51, Try.sizeOf51⟩
instance : FieldT Try.prog 51 0 0 := ⟨_, _, 1, Try.runUnderlying51, rfl, rfl, Try.sizeOf9, by decide⟩
instance : FieldT Try.prog 51 1 1 := ⟨_, _, 1, Try.runUnderlying51, rfl, rfl, Try.sizeOf22, by decide⟩
instance : PlacesT Try.prog 51 #[(0, 1), (1, 1)] (Go.Value.agg #[Go.Value.string { data := #[] }, Go.Value.slice none 0 0]) := ⟨⟨_, Try.runUnderlying51, fun w => by kernel_rfl⟩, Try.zeroValue51⟩
instance : ZeroT Try.prog 52 (Go.Value.agg #[Go.Value.string { data := #[] }, Go.Value.slice none 0 0]) := ⟨Try.zeroValue52⟩
instance : SizeT Try.prog 52 2 := ⟨Try.sizeOf52⟩
instance : AggT Try.prog 52 2 := ⟨Try.isAgg52, Try.sizeOf52⟩
instance : FieldT Try.prog 52 0 0 := ⟨_, _, 1, Try.runUnderlying52, rfl, rfl, Try.sizeOf9, by decide⟩
instance : FieldT Try.prog 52 1 1 := ⟨_, _, 1, Try.runUnderlying52, rfl, rfl, Try.sizeOf22, by decide⟩
instance : PlacesT Try.prog 52 #[(0, 1), (1, 1)] (Go.Value.agg #[Go.Value.string { data := #[] }, Go.Value.slice none 0 0]) := ⟨⟨_, Try.runUnderlying52, fun w => by kernel_rfl⟩, Try.zeroValue52⟩
instance : ZeroT Try.prog 53 (Go.Value.tuple #[Go.Value.slice none 0 0, Go.Value.int Go.IntKind.i64 0]) := ⟨Try.zeroValue53⟩
instance : SizeT Try.prog 53 1 := ⟨Try.sizeOf53⟩
instance : Plain Try.prog 53 := ⟨Try.isAgg53⟩
instance : ZeroT Try.prog 54 Go.Value.nilFunc := ⟨Try.zeroValue54⟩
instance : SizeT Try.prog 54 1 := ⟨Try.sizeOf54⟩
instance : Plain Try.prog 54 := ⟨Try.isAgg54⟩
instance : ZeroT Try.prog 55 Go.Value.nilFunc := ⟨Try.zeroValue55⟩
instance : SizeT Try.prog 55 1 := ⟨Try.sizeOf55⟩
instance : Plain Try.prog 55 := ⟨Try.isAgg55⟩
instance : ZeroT Try.prog 56 (Go.Value.slice none 0 0) := ⟨Try.zeroValue56⟩
instance : SizeT Try.prog 56 1 := ⟨Try.sizeOf56⟩
instance : Plain Try.prog 56 := ⟨Try.isAgg56⟩
instance : SliceT Try.prog 56 22 := ⟨Try.runUnderlying56⟩
instance : ElemT Try.prog 56 22 1 24 (Go.Value.slice none 0 0) := ⟨Try.underlying56, ⟨Try.t22, by kernel_rfl, rfl, rfl, rfl, rfl, by decide⟩⟩
instance : ZeroT Try.prog 57 Go.Value.nilFunc := ⟨Try.zeroValue57⟩
instance : SizeT Try.prog 57 1 := ⟨Try.sizeOf57⟩
instance : Plain Try.prog 57 := ⟨Try.isAgg57⟩
instance : ZeroT Try.prog 58 (Go.Value.slice none 0 0) := ⟨Try.zeroValue58⟩
instance : SizeT Try.prog 58 1 := ⟨Try.sizeOf58⟩
instance : Plain Try.prog 58 := ⟨Try.isAgg58⟩
instance : SliceT Try.prog 58 25 := ⟨Try.runUnderlying58⟩
instance : ElemT Try.prog 58 25 5 56 (Go.Value.agg #[Go.Value.int Go.IntKind.i64 0, Go.Value.int Go.IntKind.i64 0, Go.Value.int Go.IntKind.u64 0, Go.Value.slice none 0 0, Go.Value.bool false]) := ⟨Try.underlying58, ⟨Try.t25, by kernel_rfl, rfl, rfl, rfl, rfl, by decide⟩⟩
instance : ZeroT Try.prog 59 (Go.Value.pointer none) := ⟨Try.zeroValue59⟩
instance : SizeT Try.prog 59 1 := ⟨Try.sizeOf59⟩
instance : Plain Try.prog 59 := ⟨Try.isAgg59⟩
instance : PtrT Try.prog 59 115 := ⟨Try.runUnderlying59⟩
instance : ZeroT Try.prog 60 Go.Value.nilFunc := ⟨Try.zeroValue60⟩
instance : SizeT Try.prog 60 1 := ⟨Try.sizeOf60⟩
instance : Plain Try.prog 60 := ⟨Try.isAgg60⟩
instance : ZeroT Try.prog 61 Go.Value.nilFunc := ⟨Try.zeroValue61⟩
instance : SizeT Try.prog 61 1 := ⟨Try.sizeOf61⟩
instance : Plain Try.prog 61 := ⟨Try.isAgg61⟩
instance : ZeroT Try.prog 62 Go.Value.nilFunc := ⟨Try.zeroValue62⟩
instance : SizeT Try.prog 62 1 := ⟨Try.sizeOf62⟩
instance : Plain Try.prog 62 := ⟨Try.isAgg62⟩
instance : ZeroT Try.prog 63 Go.Value.nilFunc := ⟨Try.zeroValue63⟩
instance : SizeT Try.prog 63 1 := ⟨Try.sizeOf63⟩
instance : Plain Try.prog 63 := ⟨Try.isAgg63⟩
instance : ZeroT Try.prog 64 Go.Value.nilFunc := ⟨Try.zeroValue64⟩
instance : SizeT Try.prog 64 1 := ⟨Try.sizeOf64⟩
instance : Plain Try.prog 64 := ⟨Try.isAgg64⟩
instance : ZeroT Try.prog 65 Go.Value.nilFunc := ⟨Try.zeroValue65⟩
instance : SizeT Try.prog 65 1 := ⟨Try.sizeOf65⟩
instance : Plain Try.prog 65 := ⟨Try.isAgg65⟩
instance : ZeroT Try.prog 66 (Go.Value.pointer none) := ⟨Try.zeroValue66⟩
instance : SizeT Try.prog 66 1 := ⟨Try.sizeOf66⟩
instance : Plain Try.prog 66 := ⟨Try.isAgg66⟩
instance : PtrT Try.prog 66 119 := ⟨Try.runUnderlying66⟩
instance : ZeroT Try.prog 67 Go.Value.nilFunc := ⟨Try.zeroValue67⟩
instance : SizeT Try.prog 67 1 := ⟨Try.sizeOf67⟩
instance : Plain Try.prog 67 := ⟨Try.isAgg67⟩
instance : ZeroT Try.prog 68 Go.Value.nilFunc := ⟨Try.zeroValue68⟩
instance : SizeT Try.prog 68 1 := ⟨Try.sizeOf68⟩
instance : Plain Try.prog 68 := ⟨Try.isAgg68⟩
instance : ZeroT Try.prog 69 Go.Value.nilFunc := ⟨Try.zeroValue69⟩
instance : SizeT Try.prog 69 1 := ⟨Try.sizeOf69⟩
instance : Plain Try.prog 69 := ⟨Try.isAgg69⟩
instance : ZeroT Try.prog 70 Go.Value.nilFunc := ⟨Try.zeroValue70⟩
instance : SizeT Try.prog 70 1 := ⟨Try.sizeOf70⟩
instance : Plain Try.prog 70 := ⟨Try.isAgg70⟩
instance : ZeroT Try.prog 71 Go.Value.nilFunc := ⟨Try.zeroValue71⟩
instance : SizeT Try.prog 71 1 := ⟨Try.sizeOf71⟩
instance : Plain Try.prog 71 := ⟨Try.isAgg71⟩
instance : ZeroT Try.prog 72 Go.Value.nilFunc := ⟨Try.zeroValue72⟩
instance : SizeT Try.prog 72 1 := ⟨Try.sizeOf72⟩
instance : Plain Try.prog 72 := ⟨Try.isAgg72⟩
instance : ZeroT Try.prog 73 (Go.Value.slice none 0 0) := ⟨Try.zeroValue73⟩
instance : SizeT Try.prog 73 1 := ⟨Try.sizeOf73⟩
instance : Plain Try.prog 73 := ⟨Try.isAgg73⟩
instance : SliceT Try.prog 73 75 := ⟨Try.runUnderlying73⟩
instance : ElemT Try.prog 73 75 5 80 (Go.Value.agg #[Go.Value.int Go.IntKind.i64 0, Go.Value.int Go.IntKind.i64 0, Go.Value.string { data := #[] }, Go.Value.slice none 0 0, Go.Value.slice none 0 0]) := ⟨Try.underlying73, ⟨Try.t75, by kernel_rfl, rfl, rfl, rfl, rfl, by decide⟩⟩
instance : ZeroT Try.prog 74 (Go.Value.agg #[Go.Value.int Go.IntKind.i64 0, Go.Value.int Go.IntKind.i64 0, Go.Value.string { data := #[] }, Go.Value.slice none 0 0, Go.Value.slice none 0 0]) := ⟨Try.zeroValue74⟩
instance : SizeT Try.prog 74 5 := ⟨Try.sizeOf74⟩
instance : AggT Try.prog 74 5 := ⟨Try.isAgg74, Try.sizeOf74⟩
instance : FieldT Try.prog 74 0 0 := ⟨_, _, 1, Try.runUnderlying74, rfl, rfl, Try.sizeOf3, by decide⟩
instance : FieldT Try.prog 74 1 1 := ⟨_, _, 1, Try.runUnderlying74, rfl, rfl, Try.sizeOf3, by decide⟩
instance : FieldT Try.prog 74 2 2 := ⟨_, _, 1, Try.runUnderlying74, rfl, rfl, Try.sizeOf9, by decide⟩
instance : FieldT Try.prog 74 3 3 := ⟨_, _, 1, Try.runUnderlying74, rfl, rfl, Try.sizeOf22, by decide⟩
instance : FieldT Try.prog 74 4 4 := ⟨_, _, 1, Try.runUnderlying74, rfl, rfl, Try.sizeOf49, by decide⟩
instance : PlacesT Try.prog 74 #[(0, 1), (1, 1), (2, 1), (3, 1), (4, 1)] (Go.Value.agg #[Go.Value.int Go.IntKind.i64 0, Go.Value.int Go.IntKind.i64 0, Go.Value.string { data := #[] }, Go.Value.slice none 0 0, Go.Value.slice none 0 0]) := ⟨⟨_, Try.runUnderlying74, fun w => by kernel_rfl⟩, Try.zeroValue74⟩
instance : ZeroT Try.prog 75 (Go.Value.agg #[Go.Value.int Go.IntKind.i64 0, Go.Value.int Go.IntKind.i64 0, Go.Value.string { data := #[] }, Go.Value.slice none 0 0, Go.Value.slice none 0 0]) := ⟨Try.zeroValue75⟩
instance : SizeT Try.prog 75 5 := ⟨Try.sizeOf75⟩
instance : AggT Try.prog 75 5 := ⟨Try.isAgg75, Try.sizeOf75⟩
instance : FieldT Try.prog 75 0 0 := ⟨_, _, 1, Try.runUnderlying75, rfl, rfl, Try.sizeOf3, by decide⟩
instance : FieldT Try.prog 75 1 1 := ⟨_, _, 1, Try.runUnderlying75, rfl, rfl, Try.sizeOf3, by decide⟩
instance : FieldT Try.prog 75 2 2 := ⟨_, _, 1, Try.runUnderlying75, rfl, rfl, Try.sizeOf9, by decide⟩
instance : FieldT Try.prog 75 3 3 := ⟨_, _, 1, Try.runUnderlying75, rfl, rfl, Try.sizeOf22, by decide⟩
instance : FieldT Try.prog 75 4 4 := ⟨_, _, 1, Try.runUnderlying75, rfl, rfl, Try.sizeOf49, by decide⟩
instance : PlacesT Try.prog 75 #[(0, 1), (1, 1), (2, 1), (3, 1), (4, 1)] (Go.Value.agg #[Go.Value.int Go.IntKind.i64 0, Go.Value.int Go.IntKind.i64 0, Go.Value.string { data := #[] }, Go.Value.slice none 0 0, Go.Value.slice none 0 0]) := ⟨⟨_, Try.runUnderlying75, fun w => by kernel_rfl⟩, Try.zeroValue75⟩
instance : ZeroT Try.prog 76 Go.Value.nilFunc := ⟨Try.zeroValue76⟩
instance : SizeT Try.prog 76 1 := ⟨Try.sizeOf76⟩
instance : Plain Try.prog 76 := ⟨Try.isAgg76⟩
instance : ZeroT Try.prog 77 (Go.Value.slice none 0 0) := ⟨Try.zeroValue77⟩
instance : SizeT Try.prog 77 1 := ⟨Try.sizeOf77⟩
instance : Plain Try.prog 77 := ⟨Try.isAgg77⟩
instance : SliceT Try.prog 77 113 := ⟨Try.runUnderlying77⟩
instance : ElemT Try.prog 77 113 3 48 (Go.Value.agg #[Go.Value.string { data := #[] }, Go.Value.slice none 0 0, Go.Value.int Go.IntKind.i64 0]) := ⟨Try.underlying77, ⟨Try.t113, by kernel_rfl, rfl, rfl, rfl, rfl, by decide⟩⟩
instance : ZeroT Try.prog 78 (Go.Value.agg #[Go.Value.slice none 0 0, Go.Value.bool false, Go.Value.int Go.IntKind.i64 0]) := ⟨Try.zeroValue78⟩
instance : SizeT Try.prog 78 3 := ⟨Try.sizeOf78⟩
instance : AggT Try.prog 78 3 := ⟨Try.isAgg78, Try.sizeOf78⟩
instance : FieldT Try.prog 78 0 0 := ⟨_, _, 1, Try.runUnderlying78, rfl, rfl, Try.sizeOf77, by decide⟩
instance : FieldT Try.prog 78 1 1 := ⟨_, _, 1, Try.runUnderlying78, rfl, rfl, Try.sizeOf4, by decide⟩
instance : FieldT Try.prog 78 2 2 := ⟨_, _, 1, Try.runUnderlying78, rfl, rfl, Try.sizeOf3, by decide⟩
instance : PlacesT Try.prog 78 #[(0, 1), (1, 1), (2, 1)] (Go.Value.agg #[Go.Value.slice none 0 0, Go.Value.bool false, Go.Value.int Go.IntKind.i64 0]) := ⟨⟨_, Try.runUnderlying78, fun w => by kernel_rfl⟩, Try.zeroValue78⟩
instance : ZeroT Try.prog 79 (Go.Value.agg #[Go.Value.slice none 0 0, Go.Value.bool false, Go.Value.int Go.IntKind.i64 0]) := ⟨Try.zeroValue79⟩
instance : SizeT Try.prog 79 3 := ⟨Try.sizeOf79⟩
instance : AggT Try.prog 79 3 := ⟨Try.isAgg79, Try.sizeOf79⟩
instance : FieldT Try.prog 79 0 0 := ⟨_, _, 1, Try.runUnderlying79, rfl, rfl, Try.sizeOf77, by decide⟩
instance : FieldT Try.prog 79 1 1 := ⟨_, _, 1, Try.runUnderlying79, rfl, rfl, Try.sizeOf4, by decide⟩
instance : FieldT Try.prog 79 2 2 := ⟨_, _, 1, Try.runUnderlying79, rfl, rfl, Try.sizeOf3, by decide⟩
instance : PlacesT Try.prog 79 #[(0, 1), (1, 1), (2, 1)] (Go.Value.agg #[Go.Value.slice none 0 0, Go.Value.bool false, Go.Value.int Go.IntKind.i64 0]) := ⟨⟨_, Try.runUnderlying79, fun w => by kernel_rfl⟩, Try.zeroValue79⟩
instance : ZeroT Try.prog 80 Go.Value.nilFunc := ⟨Try.zeroValue80⟩
instance : SizeT Try.prog 80 1 := ⟨Try.sizeOf80⟩
instance : Plain Try.prog 80 := ⟨Try.isAgg80⟩
instance : ZeroT Try.prog 81 Go.Value.nilFunc := ⟨Try.zeroValue81⟩
instance : SizeT Try.prog 81 1 := ⟨Try.sizeOf81⟩
instance : Plain Try.prog 81 := ⟨Try.isAgg81⟩
instance : ZeroT Try.prog 82 (Go.Value.pointer none) := ⟨Try.zeroValue82⟩
instance : SizeT Try.prog 82 1 := ⟨Try.sizeOf82⟩
instance : Plain Try.prog 82 := ⟨Try.isAgg82⟩
instance : PtrT Try.prog 82 125 := ⟨Try.runUnderlying82⟩
instance : ZeroT Try.prog 83 (Go.Value.tuple #[Go.Value.pointer none, Go.Value.slice none 0 0, Go.Value.int Go.IntKind.i64 0]) := ⟨Try.zeroValue83⟩
instance : SizeT Try.prog 83 1 := ⟨Try.sizeOf83⟩
instance : Plain Try.prog 83 := ⟨Try.isAgg83⟩
instance : ZeroT Try.prog 84 Go.Value.nilFunc := ⟨Try.zeroValue84⟩
instance : SizeT Try.prog 84 1 := ⟨Try.sizeOf84⟩
instance : Plain Try.prog 84 := ⟨Try.isAgg84⟩
instance : ZeroT Try.prog 85 Go.Value.nilFunc := ⟨Try.zeroValue85⟩
instance : SizeT Try.prog 85 1 := ⟨Try.sizeOf85⟩
instance : Plain Try.prog 85 := ⟨Try.isAgg85⟩
instance : ZeroT Try.prog 86 (Go.Value.pointer none) := ⟨Try.zeroValue86⟩
instance : SizeT Try.prog 86 1 := ⟨Try.sizeOf86⟩
instance : Plain Try.prog 86 := ⟨Try.isAgg86⟩
instance : PtrT Try.prog 86 96 := ⟨Try.runUnderlying86⟩
instance : ZeroT Try.prog 87 (Go.Value.tuple #[Go.Value.pointer none, Go.Value.slice none 0 0, Go.Value.int Go.IntKind.i64 0]) := ⟨Try.zeroValue87⟩
instance : SizeT Try.prog 87 1 := ⟨Try.sizeOf87⟩
instance : Plain Try.prog 87 := ⟨Try.isAgg87⟩
instance : ZeroT Try.prog 88 Go.Value.nilFunc := ⟨Try.zeroValue88⟩
instance : SizeT Try.prog 88 1 := ⟨Try.sizeOf88⟩
instance : Plain Try.prog 88 := ⟨Try.isAgg88⟩
instance : ZeroT Try.prog 89 Go.Value.nilFunc := ⟨Try.zeroValue89⟩
instance : SizeT Try.prog 89 1 := ⟨Try.sizeOf89⟩
instance : Plain Try.prog 89 := ⟨Try.isAgg89⟩
instance : ZeroT Try.prog 90 Go.Value.nilFunc := ⟨Try.zeroValue90⟩
instance : SizeT Try.prog 90 1 := ⟨Try.sizeOf90⟩
instance : Plain Try.prog 90 := ⟨Try.isAgg90⟩
instance : ZeroT Try.prog 91 (Go.Value.slice none 0 0) := ⟨Try.zeroValue91⟩
instance : SizeT Try.prog 91 1 := ⟨Try.sizeOf91⟩
instance : Plain Try.prog 91 := ⟨Try.isAgg91⟩
instance : SliceT Try.prog 91 93 := ⟨Try.runUnderlying91⟩
instance : ElemT Try.prog 91 93 4 64 (Go.Value.agg #[Go.Value.int Go.IntKind.i64 0, Go.Value.int Go.IntKind.i64 0, Go.Value.slice none 0 0, Go.Value.slice none 0 0]) := ⟨Try.underlying91, ⟨Try.t93, by kernel_rfl, rfl, rfl, rfl, rfl, by decide⟩⟩
instance : ZeroT Try.prog 92 (Go.Value.agg #[Go.Value.int Go.IntKind.i64 0, Go.Value.int Go.IntKind.i64 0, Go.Value.slice none 0 0, Go.Value.slice none 0 0]) := ⟨Try.zeroValue92⟩
instance : SizeT Try.prog 92 4 := ⟨Try.sizeOf92⟩
instance : AggT Try.prog 92 4 := ⟨Try.isAgg92, Try.sizeOf92⟩
instance : FieldT Try.prog 92 0 0 := ⟨_, _, 1, Try.runUnderlying92, rfl, rfl, Try.sizeOf3, by decide⟩
instance : FieldT Try.prog 92 1 1 := ⟨_, _, 1, Try.runUnderlying92, rfl, rfl, Try.sizeOf3, by decide⟩
instance : FieldT Try.prog 92 2 2 := ⟨_, _, 1, Try.runUnderlying92, rfl, rfl, Try.sizeOf22, by decide⟩
instance : FieldT Try.prog 92 3 3 := ⟨_, _, 1, Try.runUnderlying92, rfl, rfl, Try.sizeOf49, by decide⟩
instance : PlacesT Try.prog 92 #[(0, 1), (1, 1), (2, 1), (3, 1)] (Go.Value.agg #[Go.Value.int Go.IntKind.i64 0, Go.Value.int Go.IntKind.i64 0, Go.Value.slice none 0 0, Go.Value.slice none 0 0]) := ⟨⟨_, Try.runUnderlying92, fun w => by kernel_rfl⟩, Try.zeroValue92⟩
instance : ZeroT Try.prog 93 (Go.Value.agg #[Go.Value.int Go.IntKind.i64 0, Go.Value.int Go.IntKind.i64 0, Go.Value.slice none 0 0, Go.Value.slice none 0 0]) := ⟨Try.zeroValue93⟩
instance : SizeT Try.prog 93 4 := ⟨Try.sizeOf93⟩
instance : AggT Try.prog 93 4 := ⟨Try.isAgg93, Try.sizeOf93⟩
instance : FieldT Try.prog 93 0 0 := ⟨_, _, 1, Try.runUnderlying93, rfl, rfl, Try.sizeOf3, by decide⟩
instance : FieldT Try.prog 93 1 1 := ⟨_, _, 1, Try.runUnderlying93, rfl, rfl, Try.sizeOf3, by decide⟩
instance : FieldT Try.prog 93 2 2 := ⟨_, _, 1, Try.runUnderlying93, rfl, rfl, Try.sizeOf22, by decide⟩
instance : FieldT Try.prog 93 3 3 := ⟨_, _, 1, Try.runUnderlying93, rfl, rfl, Try.sizeOf49, by decide⟩
instance : PlacesT Try.prog 93 #[(0, 1), (1, 1), (2, 1), (3, 1)] (Go.Value.agg #[Go.Value.int Go.IntKind.i64 0, Go.Value.int Go.IntKind.i64 0, Go.Value.slice none 0 0, Go.Value.slice none 0 0]) := ⟨⟨_, Try.runUnderlying93, fun w => by kernel_rfl⟩, Try.zeroValue93⟩
instance : ZeroT Try.prog 94 Go.Value.nilFunc := ⟨Try.zeroValue94⟩
instance : SizeT Try.prog 94 1 := ⟨Try.sizeOf94⟩
instance : Plain Try.prog 94 := ⟨Try.isAgg94⟩
instance : ZeroT Try.prog 95 (Go.Value.agg #[Go.Value.pointer none, Go.Value.int Go.IntKind.i64 0, Go.Value.bool false]) := ⟨Try.zeroValue95⟩
instance : SizeT Try.prog 95 3 := ⟨Try.sizeOf95⟩
instance : AggT Try.prog 95 3 := ⟨Try.isAgg95, Try.sizeOf95⟩
instance : FieldT Try.prog 95 0 0 := ⟨_, _, 1, Try.runUnderlying95, rfl, rfl, Try.sizeOf42, by decide⟩
instance : FieldT Try.prog 95 1 1 := ⟨_, _, 1, Try.runUnderlying95, rfl, rfl, Try.sizeOf3, by decide⟩
instance : FieldT Try.prog 95 2 2 := ⟨_, _, 1, Try.runUnderlying95, rfl, rfl, Try.sizeOf4, by decide⟩
instance : PlacesT Try.prog 95 #[(0, 1), (1, 1), (2, 1)] (Go.Value.agg #[Go.Value.pointer none, Go.Value.int Go.IntKind.i64 0, Go.Value.bool false]) := ⟨⟨_, Try.runUnderlying95, fun w => by kernel_rfl⟩, Try.zeroValue95⟩
instance : ZeroT Try.prog 96 (Go.Value.agg #[Go.Value.pointer none, Go.Value.int Go.IntKind.i64 0, Go.Value.bool false]) := ⟨Try.zeroValue96⟩
instance : SizeT Try.prog 96 3 := ⟨Try.sizeOf96⟩
instance : AggT Try.prog 96 3 := ⟨Try.isAgg96, Try.sizeOf96⟩
instance : FieldT Try.prog 96 0 0 := ⟨_, _, 1, Try.runUnderlying96, rfl, rfl, Try.sizeOf42, by decide⟩
instance : FieldT Try.prog 96 1 1 := ⟨_, _, 1, Try.runUnderlying96, rfl, rfl, Try.sizeOf3, by decide⟩
instance : FieldT Try.prog 96 2 2 := ⟨_, _, 1, Try.runUnderlying96, rfl, rfl, Try.sizeOf4, by decide⟩
instance : PlacesT Try.prog 96 #[(0, 1), (1, 1), (2, 1)] (Go.Value.agg #[Go.Value.pointer none, Go.Value.int Go.IntKind.i64 0, Go.Value.bool false]) := ⟨⟨_, Try.runUnderlying96, fun w => by kernel_rfl⟩, Try.zeroValue96⟩
instance : ZeroT Try.prog 97 Go.Value.nilFunc := ⟨Try.zeroValue97⟩
instance : SizeT Try.prog 97 1 := ⟨Try.sizeOf97⟩
instance : Plain Try.prog 97 := ⟨Try.isAgg97⟩
instance : ZeroT Try.prog 98 Go.Value.nilFunc := ⟨Try.zeroValue98⟩
instance : SizeT Try.prog 98 1 := ⟨Try.sizeOf98⟩
instance : Plain Try.prog 98 := ⟨Try.isAgg98⟩
instance : ZeroT Try.prog 99 (Go.Value.int Go.IntKind.u64 0) := ⟨Try.zeroValue99⟩
instance : SizeT Try.prog 99 1 := ⟨Try.sizeOf99⟩
instance : Plain Try.prog 99 := ⟨Try.isAgg99⟩
instance : IntT Try.prog 99 Go.IntKind.u64 := ⟨Try.runUnderlying99⟩
instance : ZeroT Try.prog 100 (Go.Value.slice none 0 0) := ⟨Try.zeroValue100⟩
instance : SizeT Try.prog 100 1 := ⟨Try.sizeOf100⟩
instance : Plain Try.prog 100 := ⟨Try.isAgg100⟩
instance : SliceT Try.prog 100 105 := ⟨Try.runUnderlying100⟩
instance : ElemT Try.prog 100 105 1 8 (Go.Value.pointer none) := ⟨Try.underlying100, ⟨Try.t105, by kernel_rfl, rfl, rfl, rfl, rfl, by decide⟩⟩
instance : ZeroT Try.prog 101 (Go.Value.agg #[Go.Value.slice none 0 0, Go.Value.bool false, Go.Value.int Go.IntKind.i64 0]) := ⟨Try.zeroValue101⟩
instance : SizeT Try.prog 101 3 := ⟨Try.sizeOf101⟩
instance : AggT Try.prog 101 3 := ⟨Try.isAgg101, Try.sizeOf101⟩
instance : FieldT Try.prog 101 0 0 := ⟨_, _, 1, Try.runUnderlying101, rfl, rfl, Try.sizeOf100, by decide⟩
instance : FieldT Try.prog 101 1 1 := ⟨_, _, 1, Try.runUnderlying101, rfl, rfl, Try.sizeOf4, by decide⟩
instance : FieldT Try.prog 101 2 2 := ⟨_, _, 1, Try.runUnderlying101, rfl, rfl, Try.sizeOf3, by decide⟩
instance : PlacesT Try.prog 101 #[(0, 1), (1, 1), (2, 1)] (Go.Value.agg #[Go.Value.slice none 0 0, Go.Value.bool false, Go.Value.int Go.IntKind.i64 0]) := ⟨⟨_, Try.runUnderlying101, fun w => by kernel_rfl⟩, Try.zeroValue101⟩
instance : ZeroT Try.prog 102 (Go.Value.agg #[Go.Value.slice none 0 0, Go.Value.bool false, Go.Value.int Go.IntKind.i64 0]) := ⟨Try.zeroValue102⟩
instance : SizeT Try.prog 102 3 := ⟨Try.sizeOf102⟩
instance : AggT Try.prog 102 3 := ⟨Try.isAgg102, Try.sizeOf102⟩
instance : FieldT Try.prog 102 0 0 := ⟨_, _, 1, Try.runUnderlying102, rfl, rfl, Try.sizeOf100, by decide⟩
instance : FieldT Try.prog 102 1 1 := ⟨_, _, 1, Try.runUnderlying102, rfl, rfl, Try.sizeOf4, by decide⟩
instance : FieldT Try.prog 102 2 2 := ⟨_, _, 1, Try.runUnderlying102, rfl, rfl, Try.sizeOf3, by decide⟩
instance : PlacesT Try.prog 102 #[(0, 1), (1, 1), (2, 1)] (Go.Value.agg #[Go.Value.slice none 0 0, Go.Value.bool false, Go.Value.int Go.IntKind.i64 0]) := ⟨⟨_, Try.runUnderlying102, fun w => by kernel_rfl⟩, Try.zeroValue102⟩
instance : ZeroT Try.prog 103 (Go.Value.tuple #[Go.Value.bool false, Go.Value.int Go.IntKind.i64 0]) := ⟨Try.zeroValue103⟩
instance : SizeT Try.prog 103 1 := ⟨Try.sizeOf103⟩
instance : Plain Try.prog 103 := ⟨Try.isAgg103⟩
instance : ZeroT Try.prog 104 Go.Value.nilFunc := ⟨Try.zeroValue104⟩
instance : SizeT Try.prog 104 1 := ⟨Try.sizeOf104⟩
instance : Plain Try.prog 104 := ⟨Try.isAgg104⟩
instance : ZeroT Try.prog 105 (Go.Value.pointer none) := ⟨Try.zeroValue105⟩
instance : SizeT Try.prog 105 1 := ⟨Try.sizeOf105⟩
instance : Plain Try.prog 105 := ⟨Try.isAgg105⟩
instance : PtrT Try.prog 105 109 := ⟨Try.runUnderlying105⟩
instance : ZeroT Try.prog 106 Go.Value.nilFunc := ⟨Try.zeroValue106⟩
instance : SizeT Try.prog 106 1 := ⟨Try.sizeOf106⟩
instance : Plain Try.prog 106 := ⟨Try.isAgg106⟩
instance : ZeroT Try.prog 107 Go.Value.nilFunc := ⟨Try.zeroValue107⟩
instance : SizeT Try.prog 107 1 := ⟨Try.sizeOf107⟩
instance : Plain Try.prog 107 := ⟨Try.isAgg107⟩
instance : ZeroT Try.prog 108 (Go.Value.agg #[Go.Value.string { data := #[] }, Go.Value.slice none 0 0, Go.Value.int Go.IntKind.i64 0]) := ⟨Try.zeroValue108⟩
instance : SizeT Try.prog 108 3 := ⟨Try.sizeOf108⟩
instance : AggT Try.prog 108 3 := ⟨Try.isAgg108, Try.sizeOf108⟩
instance : FieldT Try.prog 108 0 0 := ⟨_, _, 1, Try.runUnderlying108, rfl, rfl, Try.sizeOf9, by decide⟩
instance : FieldT Try.prog 108 1 1 := ⟨_, _, 1, Try.runUnderlying108, rfl, rfl, Try.sizeOf22, by decide⟩
instance : FieldT Try.prog 108 2 2 := ⟨_, _, 1, Try.runUnderlying108, rfl, rfl, Try.sizeOf3, by decide⟩
instance : PlacesT Try.prog 108 #[(0, 1), (1, 1), (2, 1)] (Go.Value.agg #[Go.Value.string { data := #[] }, Go.Value.slice none 0 0, Go.Value.int Go.IntKind.i64 0]) := ⟨⟨_, Try.runUnderlying108, fun w => by kernel_rfl⟩, Try.zeroValue108⟩
instance : ZeroT Try.prog 109 (Go.Value.agg #[Go.Value.string { data := #[] }, Go.Value.slice none 0 0, Go.Value.int Go.IntKind.i64 0]) := ⟨Try.zeroValue109⟩
instance : SizeT Try.prog 109 3 := ⟨Try.sizeOf109⟩
instance : AggT Try.prog 109 3 := ⟨Try.isAgg109, Try.sizeOf109⟩
instance : FieldT Try.prog 109 0 0 := ⟨_, _, 1, Try.runUnderlying109, rfl, rfl, Try.sizeOf9, by decide⟩
instance : FieldT Try.prog 109 1 1 := ⟨_, _, 1, Try.runUnderlying109, rfl, rfl, Try.sizeOf22, by decide⟩
instance : FieldT Try.prog 109 2 2 := ⟨_, _, 1, Try.runUnderlying109, rfl, rfl, Try.sizeOf3, by decide⟩
instance : PlacesT Try.prog 109 #[(0, 1), (1, 1), (2, 1)] (Go.Value.agg #[Go.Value.string { data := #[] }, Go.Value.slice none 0 0, Go.Value.int Go.IntKind.i64 0]) := ⟨⟨_, Try.runUnderlying109, fun w => by kernel_rfl⟩, Try.zeroValue109⟩
instance : ZeroT Try.prog 110 Go.Value.nilFunc := ⟨Try.zeroValue110⟩
instance : SizeT Try.prog 110 1 := ⟨Try.sizeOf110⟩
instance : Plain Try.prog 110 := ⟨Try.isAgg110⟩
instance : ZeroT Try.prog 111 Go.Value.nilFunc := ⟨Try.zeroValue111⟩
instance : SizeT Try.prog 111 1 := ⟨Try.sizeOf111⟩
instance : Plain Try.prog 111 := ⟨Try.isAgg111⟩
instance : ZeroT Try.prog 112 (Go.Value.agg #[Go.Value.string { data := #[] }, Go.Value.slice none 0 0, Go.Value.int Go.IntKind.i64 0]) := ⟨Try.zeroValue112⟩
instance : SizeT Try.prog 112 3 := ⟨Try.sizeOf112⟩
instance : AggT Try.prog 112 3 := ⟨Try.isAgg112, Try.sizeOf112⟩
instance : FieldT Try.prog 112 0 0 := ⟨_, _, 1, Try.runUnderlying112, rfl, rfl, Try.sizeOf9, by decide⟩
instance : FieldT Try.prog 112 1 1 := ⟨_, _, 1, Try.runUnderlying112, rfl, rfl, Try.sizeOf22, by decide⟩
instance : FieldT Try.prog 112 2 2 := ⟨_, _, 1, Try.runUnderlying112, rfl, rfl, Try.sizeOf3, by decide⟩
instance : PlacesT Try.prog 112 #[(0, 1), (1, 1), (2, 1)] (Go.Value.agg #[Go.Value.string { data := #[] }, Go.Value.slice none 0 0, Go.Value.int Go.IntKind.i64 0]) := ⟨⟨_, Try.runUnderlying112, fun w => by kernel_rfl⟩, Try.zeroValue112⟩
instance : ZeroT Try.prog 113 (Go.Value.agg #[Go.Value.string { data := #[] }, Go.Value.slice none 0 0, Go.Value.int Go.IntKind.i64 0]) := ⟨Try.zeroValue113⟩
instance : SizeT Try.prog 113 3 := ⟨Try.sizeOf113⟩
instance : AggT Try.prog 113 3 := ⟨Try.isAgg113, Try.sizeOf113⟩
instance : FieldT Try.prog 113 0 0 := ⟨_, _, 1, Try.runUnderlying113, rfl, rfl, Try.sizeOf9, by decide⟩
instance : FieldT Try.prog 113 1 1 := ⟨_, _, 1, Try.runUnderlying113, rfl, rfl, Try.sizeOf22, by decide⟩
instance : FieldT Try.prog 113 2 2 := ⟨_, _, 1, Try.runUnderlying113, rfl, rfl, Try.sizeOf3, by decide⟩
instance : PlacesT Try.prog 113 #[(0, 1), (1, 1), (2, 1)] (Go.Value.agg #[Go.Value.string { data := #[] }, Go.Value.slice none 0 0, Go.Value.int Go.IntKind.i64 0]) := ⟨⟨_, Try.runUnderlying113, fun w => by kernel_rfl⟩, Try.zeroValue113⟩
instance : ZeroT Try.prog 114 (Go.Value.agg #[Go.Value.slice none 0 0, Go.Value.int Go.IntKind.i64 0]) := ⟨Try.zeroValue114⟩
instance : SizeT Try.prog 114 2 := ⟨Try.sizeOf114⟩
instance : AggT Try.prog 114 2 := ⟨Try.isAgg114, Try.sizeOf114⟩
instance : FieldT Try.prog 114 0 0 := ⟨_, _, 1, Try.runUnderlying114, rfl, rfl, Try.sizeOf22, by decide⟩
instance : FieldT Try.prog 114 1 1 := ⟨_, _, 1, Try.runUnderlying114, rfl, rfl, Try.sizeOf36, by decide⟩
instance : PlacesT Try.prog 114 #[(0, 1), (1, 1)] (Go.Value.agg #[Go.Value.slice none 0 0, Go.Value.int Go.IntKind.i64 0]) := ⟨⟨_, Try.runUnderlying114, fun w => by kernel_rfl⟩, Try.zeroValue114⟩
instance : ZeroT Try.prog 115 (Go.Value.agg #[Go.Value.slice none 0 0, Go.Value.int Go.IntKind.i64 0]) := ⟨Try.zeroValue115⟩
instance : SizeT Try.prog 115 2 := ⟨Try.sizeOf115⟩
instance : AggT Try.prog 115 2 := ⟨Try.isAgg115, Try.sizeOf115⟩
instance : FieldT Try.prog 115 0 0 := ⟨_, _, 1, Try.runUnderlying115, rfl, rfl, Try.sizeOf22, by decide⟩
instance : FieldT Try.prog 115 1 1 := ⟨_, _, 1, Try.runUnderlying115, rfl, rfl, Try.sizeOf36, by decide⟩
instance : PlacesT Try.prog 115 #[(0, 1), (1, 1)] (Go.Value.agg #[Go.Value.slice none 0 0, Go.Value.int Go.IntKind.i64 0]) := ⟨⟨_, Try.runUnderlying115, fun w => by kernel_rfl⟩, Try.zeroValue115⟩
instance : ZeroT Try.prog 116 (Go.Value.tuple #[Go.Value.int Go.IntKind.u64 0, Go.Value.bool false]) := ⟨Try.zeroValue116⟩
instance : SizeT Try.prog 116 1 := ⟨Try.sizeOf116⟩
instance : Plain Try.prog 116 := ⟨Try.isAgg116⟩
instance : ZeroT Try.prog 117 Go.Value.nilFunc := ⟨Try.zeroValue117⟩
instance : SizeT Try.prog 117 1 := ⟨Try.sizeOf117⟩
instance : Plain Try.prog 117 := ⟨Try.isAgg117⟩
instance : ZeroT Try.prog 118 (Go.Value.agg #[Go.Value.slice none 0 0, Go.Value.int Go.IntKind.i64 0]) := ⟨Try.zeroValue118⟩
instance : SizeT Try.prog 118 2 := ⟨Try.sizeOf118⟩
instance : AggT Try.prog 118 2 := ⟨Try.isAgg118, Try.sizeOf118⟩
instance : FieldT Try.prog 118 0 0 := ⟨_, _, 1, Try.runUnderlying118, rfl, rfl, Try.sizeOf22, by decide⟩
instance : FieldT Try.prog 118 1 1 := ⟨_, _, 1, Try.runUnderlying118, rfl, rfl, Try.sizeOf36, by decide⟩
instance : PlacesT Try.prog 118 #[(0, 1), (1, 1)] (Go.Value.agg #[Go.Value.slice none 0 0, Go.Value.int Go.IntKind.i64 0]) := ⟨⟨_, Try.runUnderlying118, fun w => by kernel_rfl⟩, Try.zeroValue118⟩
instance : ZeroT Try.prog 119 (Go.Value.agg #[Go.Value.slice none 0 0, Go.Value.int Go.IntKind.i64 0]) := ⟨Try.zeroValue119⟩
instance : SizeT Try.prog 119 2 := ⟨Try.sizeOf119⟩
instance : AggT Try.prog 119 2 := ⟨Try.isAgg119, Try.sizeOf119⟩
instance : FieldT Try.prog 119 0 0 := ⟨_, _, 1, Try.runUnderlying119, rfl, rfl, Try.sizeOf22, by decide⟩
instance : FieldT Try.prog 119 1 1 := ⟨_, _, 1, Try.runUnderlying119, rfl, rfl, Try.sizeOf36, by decide⟩
instance : PlacesT Try.prog 119 #[(0, 1), (1, 1)] (Go.Value.agg #[Go.Value.slice none 0 0, Go.Value.int Go.IntKind.i64 0]) := ⟨⟨_, Try.runUnderlying119, fun w => by kernel_rfl⟩, Try.zeroValue119⟩
instance : ZeroT Try.prog 120 (Go.Value.tuple #[Go.Value.slice none 0 0, Go.Value.bool false, Go.Value.int Go.IntKind.i64 0]) := ⟨Try.zeroValue120⟩
instance : SizeT Try.prog 120 1 := ⟨Try.sizeOf120⟩
instance : Plain Try.prog 120 := ⟨Try.isAgg120⟩
instance : ZeroT Try.prog 121 Go.Value.nilFunc := ⟨Try.zeroValue121⟩
instance : SizeT Try.prog 121 1 := ⟨Try.sizeOf121⟩
instance : Plain Try.prog 121 := ⟨Try.isAgg121⟩
instance : ZeroT Try.prog 122 Go.Value.nilFunc := ⟨Try.zeroValue122⟩
instance : SizeT Try.prog 122 1 := ⟨Try.sizeOf122⟩
instance : Plain Try.prog 122 := ⟨Try.isAgg122⟩
instance : ZeroT Try.prog 123 Go.Value.nilFunc := ⟨Try.zeroValue123⟩
instance : SizeT Try.prog 123 1 := ⟨Try.sizeOf123⟩
instance : Plain Try.prog 123 := ⟨Try.isAgg123⟩
instance : ZeroT Try.prog 124 (Go.Value.agg #[Go.Value.pointer none, Go.Value.int Go.IntKind.i64 0, Go.Value.bool false]) := ⟨Try.zeroValue124⟩
instance : SizeT Try.prog 124 3 := ⟨Try.sizeOf124⟩
instance : AggT Try.prog 124 3 := ⟨Try.isAgg124, Try.sizeOf124⟩
instance : FieldT Try.prog 124 0 0 := ⟨_, _, 1, Try.runUnderlying124, rfl, rfl, Try.sizeOf33, by decide⟩
instance : FieldT Try.prog 124 1 1 := ⟨_, _, 1, Try.runUnderlying124, rfl, rfl, Try.sizeOf3, by decide⟩
instance : FieldT Try.prog 124 2 2 := ⟨_, _, 1, Try.runUnderlying124, rfl, rfl, Try.sizeOf4, by decide⟩
instance : PlacesT Try.prog 124 #[(0, 1), (1, 1), (2, 1)] (Go.Value.agg #[Go.Value.pointer none, Go.Value.int Go.IntKind.i64 0, Go.Value.bool false]) := ⟨⟨_, Try.runUnderlying124, fun w => by kernel_rfl⟩, Try.zeroValue124⟩
instance : ZeroT Try.prog 125 (Go.Value.agg #[Go.Value.pointer none, Go.Value.int Go.IntKind.i64 0, Go.Value.bool false]) := ⟨Try.zeroValue125⟩
instance : SizeT Try.prog 125 3 := ⟨Try.sizeOf125⟩
instance : AggT Try.prog 125 3 := ⟨Try.isAgg125, Try.sizeOf125⟩
instance : FieldT Try.prog 125 0 0 := ⟨_, _, 1, Try.runUnderlying125, rfl, rfl, Try.sizeOf33, by decide⟩
instance : FieldT Try.prog 125 1 1 := ⟨_, _, 1, Try.runUnderlying125, rfl, rfl, Try.sizeOf3, by decide⟩
instance : FieldT Try.prog 125 2 2 := ⟨_, _, 1, Try.runUnderlying125, rfl, rfl, Try.sizeOf4, by decide⟩
instance : PlacesT Try.prog 125 #[(0, 1), (1, 1), (2, 1)] (Go.Value.agg #[Go.Value.pointer none, Go.Value.int Go.IntKind.i64 0, Go.Value.bool false]) := ⟨⟨_, Try.runUnderlying125, fun w => by kernel_rfl⟩, Try.zeroValue125⟩
instance : ZeroT Try.prog 126 (Go.Value.tuple #[Go.Value.slice none 0 0, Go.Value.slice none 0 0, Go.Value.bool false]) := ⟨Try.zeroValue126⟩
instance : SizeT Try.prog 126 1 := ⟨Try.sizeOf126⟩
instance : Plain Try.prog 126 := ⟨Try.isAgg126⟩
instance : ZeroT Try.prog 127 Go.Value.nilFunc := ⟨Try.zeroValue127⟩
instance : SizeT Try.prog 127 1 := ⟨Try.sizeOf127⟩
instance : Plain Try.prog 127 := ⟨Try.isAgg127⟩
instance : ZeroT Try.prog 128 Go.Value.nilFunc := ⟨Try.zeroValue128⟩
instance : SizeT Try.prog 128 1 := ⟨Try.sizeOf128⟩
instance : Plain Try.prog 128 := ⟨Try.isAgg128⟩
instance : ZeroT Try.prog 129 (Go.Value.slice none 0 0) := ⟨Try.zeroValue129⟩
instance : SizeT Try.prog 129 1 := ⟨Try.sizeOf129⟩
instance : Plain Try.prog 129 := ⟨Try.isAgg129⟩
instance : SliceT Try.prog 129 64 := ⟨Try.runUnderlying129⟩
instance : ElemT Try.prog 129 64 1 8 Go.Value.nilFunc := ⟨Try.underlying129, ⟨Try.t64, by kernel_rfl, rfl, rfl, rfl, rfl, by decide⟩⟩
instance : ZeroT Try.prog 130 Go.Value.nilFunc := ⟨Try.zeroValue130⟩
instance : SizeT Try.prog 130 1 := ⟨Try.sizeOf130⟩
instance : Plain Try.prog 130 := ⟨Try.isAgg130⟩
instance : ZeroT Try.prog 131 (Go.Value.tuple #[Go.Value.slice none 0 0, Go.Value.int Go.IntKind.i64 0, Go.Value.bool false]) := ⟨Try.zeroValue131⟩
instance : SizeT Try.prog 131 1 := ⟨Try.sizeOf131⟩
instance : Plain Try.prog 131 := ⟨Try.isAgg131⟩
instance : ZeroT Try.prog 132 Go.Value.nilFunc := ⟨Try.zeroValue132⟩
instance : SizeT Try.prog 132 1 := ⟨Try.sizeOf132⟩
instance : Plain Try.prog 132 := ⟨Try.isAgg132⟩
instance : ZeroT Try.prog 133 Go.Value.nilFunc := ⟨Try.zeroValue133⟩
instance : SizeT Try.prog 133 1 := ⟨Try.sizeOf133⟩
instance : Plain Try.prog 133 := ⟨Try.isAgg133⟩
instance : ZeroT Try.prog 134 Go.Value.nilFunc := ⟨Try.zeroValue134⟩
instance : SizeT Try.prog 134 1 := ⟨Try.sizeOf134⟩
instance : Plain Try.prog 134 := ⟨Try.isAgg134⟩
instance : ZeroT Try.prog 135 (Go.Value.tuple #[Go.Value.slice none 0 0, Go.Value.bool false]) := ⟨Try.zeroValue135⟩
instance : SizeT Try.prog 135 1 := ⟨Try.sizeOf135⟩
instance : Plain Try.prog 135 := ⟨Try.isAgg135⟩
instance : ZeroT Try.prog 136 Go.Value.nilFunc := ⟨Try.zeroValue136⟩
instance : SizeT Try.prog 136 1 := ⟨Try.sizeOf136⟩
instance : Plain Try.prog 136 := ⟨Try.isAgg136⟩
instance : ZeroT Try.prog 137 Go.Value.nilFunc := ⟨Try.zeroValue137⟩
instance : SizeT Try.prog 137 1 := ⟨Try.sizeOf137⟩
instance : Plain Try.prog 137 := ⟨Try.isAgg137⟩
instance : ZeroT Try.prog 138 (Go.Value.agg #[Go.Value.pointer none, Go.Value.pointer none, Go.Value.pointer none, Go.Value.string { data := #[] }]) := ⟨Try.zeroValue138⟩
instance : SizeT Try.prog 138 4 := ⟨Try.sizeOf138⟩
instance : AggT Try.prog 138 4 := ⟨Try.isAgg138, Try.sizeOf138⟩
instance : FieldT Try.prog 138 0 0 := ⟨_, _, 1, Try.runUnderlying138, rfl, rfl, Try.sizeOf17, by decide⟩
instance : FieldT Try.prog 138 1 1 := ⟨_, _, 1, Try.runUnderlying138, rfl, rfl, Try.sizeOf17, by decide⟩
instance : FieldT Try.prog 138 2 2 := ⟨_, _, 1, Try.runUnderlying138, rfl, rfl, Try.sizeOf17, by decide⟩
instance : FieldT Try.prog 138 3 3 := ⟨_, _, 1, Try.runUnderlying138, rfl, rfl, Try.sizeOf9, by decide⟩
instance : PlacesT Try.prog 138 #[(0, 1), (1, 1), (2, 1), (3, 1)] (Go.Value.agg #[Go.Value.pointer none, Go.Value.pointer none, Go.Value.pointer none, Go.Value.string { data := #[] }]) := ⟨⟨_, Try.runUnderlying138, fun w => by kernel_rfl⟩, Try.zeroValue138⟩
instance : ZeroT Try.prog 139 (Go.Value.agg #[Go.Value.pointer none, Go.Value.pointer none, Go.Value.pointer none, Go.Value.string { data := #[] }]) := ⟨Try.zeroValue139⟩
instance : SizeT Try.prog 139 4 := ⟨Try.sizeOf139⟩
instance : AggT Try.prog 139 4 := ⟨Try.isAgg139, Try.sizeOf139⟩
instance : FieldT Try.prog 139 0 0 := ⟨_, _, 1, Try.runUnderlying139, rfl, rfl, Try.sizeOf17, by decide⟩
instance : FieldT Try.prog 139 1 1 := ⟨_, _, 1, Try.runUnderlying139, rfl, rfl, Try.sizeOf17, by decide⟩
instance : FieldT Try.prog 139 2 2 := ⟨_, _, 1, Try.runUnderlying139, rfl, rfl, Try.sizeOf17, by decide⟩
instance : FieldT Try.prog 139 3 3 := ⟨_, _, 1, Try.runUnderlying139, rfl, rfl, Try.sizeOf9, by decide⟩
instance : PlacesT Try.prog 139 #[(0, 1), (1, 1), (2, 1), (3, 1)] (Go.Value.agg #[Go.Value.pointer none, Go.Value.pointer none, Go.Value.pointer none, Go.Value.string { data := #[] }]) := ⟨⟨_, Try.runUnderlying139, fun w => by kernel_rfl⟩, Try.zeroValue139⟩
instance : ZeroT Try.prog 140 (Go.Value.agg #[]) := ⟨Try.zeroValue140⟩
instance : SizeT Try.prog 140 0 := ⟨Try.sizeOf140⟩
instance : AggT Try.prog 140 0 := ⟨Try.isAgg140, Try.sizeOf140⟩
instance : ZeroT Try.prog 141 (Go.Value.agg #[]) := ⟨Try.zeroValue141⟩
instance : SizeT Try.prog 141 0 := ⟨Try.sizeOf141⟩
instance : AggT Try.prog 141 0 := ⟨Try.isAgg141, Try.sizeOf141⟩
instance : ZeroT Try.prog 142 (Go.Value.agg #[]) := ⟨Try.zeroValue142⟩
instance : SizeT Try.prog 142 0 := ⟨Try.sizeOf142⟩
instance : AggT Try.prog 142 0 := ⟨Try.isAgg142, Try.sizeOf142⟩
instance : ZeroT Try.prog 143 (Go.Value.int Go.IntKind.u32 0) := ⟨Try.zeroValue143⟩
instance : SizeT Try.prog 143 1 := ⟨Try.sizeOf143⟩
instance : Plain Try.prog 143 := ⟨Try.isAgg143⟩
instance : IntT Try.prog 143 Go.IntKind.u32 := ⟨Try.runUnderlying143⟩
instance : ZeroT Try.prog 144 (Go.Value.int Go.IntKind.u8 0) := ⟨Try.zeroValue144⟩
instance : SizeT Try.prog 144 1 := ⟨Try.sizeOf144⟩
instance : Plain Try.prog 144 := ⟨Try.isAgg144⟩
instance : IntT Try.prog 144 Go.IntKind.u8 := ⟨Try.runUnderlying144⟩
instance : ZeroT Try.prog 145 (Go.Value.int Go.IntKind.u8 0) := ⟨Try.zeroValue145⟩
instance : SizeT Try.prog 145 1 := ⟨Try.sizeOf145⟩
instance : Plain Try.prog 145 := ⟨Try.isAgg145⟩
instance : IntT Try.prog 145 Go.IntKind.u8 := ⟨Try.runUnderlying145⟩
instance : ZeroT Try.prog 146 Go.Value.nilFunc := ⟨Try.zeroValue146⟩
instance : SizeT Try.prog 146 1 := ⟨Try.sizeOf146⟩
instance : Plain Try.prog 146 := ⟨Try.isAgg146⟩
instance : ZeroT Try.prog 147 (Go.Value.pointer none) := ⟨Try.zeroValue147⟩
instance : SizeT Try.prog 147 1 := ⟨Try.sizeOf147⟩
instance : Plain Try.prog 147 := ⟨Try.isAgg147⟩
instance : PtrT Try.prog 147 5 := ⟨Try.runUnderlying147⟩
instance : ZeroT Try.prog 148 (Go.Value.int Go.IntKind.i32 0) := ⟨Try.zeroValue148⟩
instance : SizeT Try.prog 148 1 := ⟨Try.sizeOf148⟩
instance : Plain Try.prog 148 := ⟨Try.isAgg148⟩
instance : IntT Try.prog 148 Go.IntKind.i32 := ⟨Try.runUnderlying148⟩
instance : ZeroT Try.prog 149 (Go.Value.int Go.IntKind.i32 0) := ⟨Try.zeroValue149⟩
instance : SizeT Try.prog 149 1 := ⟨Try.sizeOf149⟩
instance : Plain Try.prog 149 := ⟨Try.isAgg149⟩
instance : IntT Try.prog 149 Go.IntKind.i32 := ⟨Try.runUnderlying149⟩
instance : ZeroT Try.prog 150 (Go.Value.agg #[Go.Value.int Go.IntKind.u64 0, Go.Value.int Go.IntKind.u64 0, Go.Value.int Go.IntKind.u32 0, Go.Value.int Go.IntKind.u8 0, Go.Value.int Go.IntKind.u8 0, Go.Value.int Go.IntKind.u8 0, Go.Value.int Go.IntKind.u8 0, Go.Value.nilFunc, Go.Value.pointer none, Go.Value.int Go.IntKind.i32 0, Go.Value.int Go.IntKind.i32 0]) := ⟨Try.zeroValue150⟩
instance : SizeT Try.prog 150 11 := ⟨Try.sizeOf150⟩
instance : AggT Try.prog 150 11 := ⟨Try.isAgg150, Try.sizeOf150⟩
instance : FieldT Try.prog 150 0 0 := ⟨_, _, 1, Try.runUnderlying150, rfl, rfl, Try.sizeOf12, by decide⟩
instance : FieldT Try.prog 150 1 1 := ⟨_, _, 1, Try.runUnderlying150, rfl, rfl, Try.sizeOf12, by decide⟩
instance : FieldT Try.prog 150 2 2 := ⟨_, _, 1, Try.runUnderlying150, rfl, rfl, Try.sizeOf143, by decide⟩
instance : FieldT Try.prog 150 3 3 := ⟨_, _, 1, Try.runUnderlying150, rfl, rfl, Try.sizeOf144, by decide⟩
instance : FieldT Try.prog 150 4 4 := ⟨_, _, 1, Try.runUnderlying150, rfl, rfl, Try.sizeOf5, by decide⟩
instance : FieldT Try.prog 150 5 5 := ⟨_, _, 1, Try.runUnderlying150, rfl, rfl, Try.sizeOf5, by decide⟩
instance : FieldT Try.prog 150 6 6 := ⟨_, _, 1, Try.runUnderlying150, rfl, rfl, Try.sizeOf145, by decide⟩
instance : FieldT Try.prog 150 7 7 := ⟨_, _, 1, Try.runUnderlying150, rfl, rfl, Try.sizeOf146, by decide⟩
instance : FieldT Try.prog 150 8 8 := ⟨_, _, 1, Try.runUnderlying150, rfl, rfl, Try.sizeOf147, by decide⟩
instance : FieldT Try.prog 150 9 9 := ⟨_, _, 1, Try.runUnderlying150, rfl, rfl, Try.sizeOf148, by decide⟩
instance : FieldT Try.prog 150 10 10 := ⟨_, _, 1, Try.runUnderlying150, rfl, rfl, Try.sizeOf149, by decide⟩
instance : PlacesT Try.prog 150 #[(0, 1), (1, 1), (2, 1), (3, 1), (4, 1), (5, 1), (6, 1), (7, 1), (8, 1), (9, 1), (10, 1)] (Go.Value.agg #[Go.Value.int Go.IntKind.u64 0, Go.Value.int Go.IntKind.u64 0, Go.Value.int Go.IntKind.u32 0, Go.Value.int Go.IntKind.u8 0, Go.Value.int Go.IntKind.u8 0, Go.Value.int Go.IntKind.u8 0, Go.Value.int Go.IntKind.u8 0, Go.Value.nilFunc, Go.Value.pointer none, Go.Value.int Go.IntKind.i32 0, Go.Value.int Go.IntKind.i32 0]) := ⟨⟨_, Try.runUnderlying150, fun w => by kernel_rfl⟩, Try.zeroValue150⟩
instance : ZeroT Try.prog 151 (Go.Value.agg #[Go.Value.int Go.IntKind.u64 0, Go.Value.int Go.IntKind.u64 0, Go.Value.int Go.IntKind.u32 0, Go.Value.int Go.IntKind.u8 0, Go.Value.int Go.IntKind.u8 0, Go.Value.int Go.IntKind.u8 0, Go.Value.int Go.IntKind.u8 0, Go.Value.nilFunc, Go.Value.pointer none, Go.Value.int Go.IntKind.i32 0, Go.Value.int Go.IntKind.i32 0]) := ⟨Try.zeroValue151⟩
instance : SizeT Try.prog 151 11 := ⟨Try.sizeOf151⟩
instance : AggT Try.prog 151 11 := ⟨Try.isAgg151, Try.sizeOf151⟩
instance : FieldT Try.prog 151 0 0 := ⟨_, _, 1, Try.runUnderlying151, rfl, rfl, Try.sizeOf12, by decide⟩
instance : FieldT Try.prog 151 1 1 := ⟨_, _, 1, Try.runUnderlying151, rfl, rfl, Try.sizeOf12, by decide⟩
instance : FieldT Try.prog 151 2 2 := ⟨_, _, 1, Try.runUnderlying151, rfl, rfl, Try.sizeOf143, by decide⟩
instance : FieldT Try.prog 151 3 3 := ⟨_, _, 1, Try.runUnderlying151, rfl, rfl, Try.sizeOf144, by decide⟩
instance : FieldT Try.prog 151 4 4 := ⟨_, _, 1, Try.runUnderlying151, rfl, rfl, Try.sizeOf5, by decide⟩
instance : FieldT Try.prog 151 5 5 := ⟨_, _, 1, Try.runUnderlying151, rfl, rfl, Try.sizeOf5, by decide⟩
instance : FieldT Try.prog 151 6 6 := ⟨_, _, 1, Try.runUnderlying151, rfl, rfl, Try.sizeOf145, by decide⟩
instance : FieldT Try.prog 151 7 7 := ⟨_, _, 1, Try.runUnderlying151, rfl, rfl, Try.sizeOf146, by decide⟩
instance : FieldT Try.prog 151 8 8 := ⟨_, _, 1, Try.runUnderlying151, rfl, rfl, Try.sizeOf147, by decide⟩
instance : FieldT Try.prog 151 9 9 := ⟨_, _, 1, Try.runUnderlying151, rfl, rfl, Try.sizeOf148, by decide⟩
instance : FieldT Try.prog 151 10 10 := ⟨_, _, 1, Try.runUnderlying151, rfl, rfl, Try.sizeOf149, by decide⟩
instance : PlacesT Try.prog 151 #[(0, 1), (1, 1), (2, 1), (3, 1), (4, 1), (5, 1), (6, 1), (7, 1), (8, 1), (9, 1), (10, 1)] (Go.Value.agg #[Go.Value.int Go.IntKind.u64 0, Go.Value.int Go.IntKind.u64 0, Go.Value.int Go.IntKind.u32 0, Go.Value.int Go.IntKind.u8 0, Go.Value.int Go.IntKind.u8 0, Go.Value.int Go.IntKind.u8 0, Go.Value.int Go.IntKind.u8 0, Go.Value.nilFunc, Go.Value.pointer none, Go.Value.int Go.IntKind.i32 0, Go.Value.int Go.IntKind.i32 0]) := ⟨⟨_, Try.runUnderlying151, fun w => by kernel_rfl⟩, Try.zeroValue151⟩
instance : ZeroT Try.prog 152 (Go.Value.pointer none) := ⟨Try.zeroValue152⟩
instance : SizeT Try.prog 152 1 := ⟨Try.sizeOf152⟩
instance : Plain Try.prog 152 := ⟨Try.isAgg152⟩
instance : CallT Try.prog 2 := ⟨Try.call2⟩
instance : CallT Try.prog 3 := ⟨Try.call3⟩
instance : CallT Try.prog 4 := ⟨Try.call4⟩
instance : CallT Try.prog 5 := ⟨Try.call5⟩
instance : CallT Try.prog 6 := ⟨Try.call6⟩
instance : CallT Try.prog 7 := ⟨Try.call7⟩
instance : CallT Try.prog 8 := ⟨Try.call8⟩
instance : CallT Try.prog 9 := ⟨Try.call9⟩
instance : CallT Try.prog 10 := ⟨Try.call10⟩
instance : CallT Try.prog 11 := ⟨Try.call11⟩
instance : CallT Try.prog 12 := ⟨Try.call12⟩
instance : CallT Try.prog 13 := ⟨Try.call13⟩
instance : CallT Try.prog 14 := ⟨Try.call14⟩
instance : CallT Try.prog 15 := ⟨Try.call15⟩
instance : CallT Try.prog 16 := ⟨Try.call16⟩
instance : CallT Try.prog 17 := ⟨Try.call17⟩
instance : CallT Try.prog 18 := ⟨Try.call18⟩
instance : CallT Try.prog 19 := ⟨Try.call19⟩
instance : CallT Try.prog 20 := ⟨Try.call20⟩
instance : CallT Try.prog 21 := ⟨Try.call21⟩
instance : CallT Try.prog 22 := ⟨Try.call22⟩
instance : CallT Try.prog 23 := ⟨Try.call23⟩
instance : CallT Try.prog 24 := ⟨Try.call24⟩
instance : CallT Try.prog 25 := ⟨Try.call25⟩
instance : CallT Try.prog 26 := ⟨Try.call26⟩
instance : CallT Try.prog 27 := ⟨Try.call27⟩
instance : CallT Try.prog 28 := ⟨Try.call28⟩
instance : CallT Try.prog 29 := ⟨Try.call29⟩
instance : CallT Try.prog 30 := ⟨Try.call30⟩
instance : CallT Try.prog 31 := ⟨Try.call31⟩
instance : CallT Try.prog 32 := ⟨Try.call32⟩
instance : CallT Try.prog 33 := ⟨Try.call33⟩
instance : CallT Try.prog 34 := ⟨Try.call34⟩
instance : CallT Try.prog 35 := ⟨Try.call35⟩
instance : CallT Try.prog 36 := ⟨Try.call36⟩
instance : CallT Try.prog 37 := ⟨Try.call37⟩
instance : CallT Try.prog 38 := ⟨Try.call38⟩
instance : CallT Try.prog 39 := ⟨Try.call39⟩
instance : CallT Try.prog 40 := ⟨Try.call40⟩
instance : CallT Try.prog 41 := ⟨Try.call41⟩
instance : CallT Try.prog 42 := ⟨Try.call42⟩
instance : CallT Try.prog 43 := ⟨Try.call43⟩
instance : CallT Try.prog 44 := ⟨Try.call44⟩
instance : CallT Try.prog 45 := ⟨Try.call45⟩
instance : CallT Try.prog 46 := ⟨Try.call46⟩
instance : CallT Try.prog 47 := ⟨Try.call47⟩
instance : CallT Try.prog 48 := ⟨Try.call48⟩
instance : CallT Try.prog 49 := ⟨Try.call49⟩
instance : CallT Try.prog 50 := ⟨Try.call50⟩
instance : CallT Try.prog 51 := ⟨Try.call51⟩
instance : CallT Try.prog 52 := ⟨Try.call52⟩
instance : CallT Try.prog 53 := ⟨Try.call53⟩
instance : CallT Try.prog 54 := ⟨Try.call54⟩
instance : CallT Try.prog 55 := ⟨Try.call55⟩
instance : CallT Try.prog 56 := ⟨Try.call56⟩
instance : CallT Try.prog 57 := ⟨Try.call57⟩
instance : CallT Try.prog 58 := ⟨Try.call58⟩
instance : CallT Try.prog 59 := ⟨Try.call59⟩
instance : CallT Try.prog 60 := ⟨Try.call60⟩
instance : CallT Try.prog 61 := ⟨Try.call61⟩
instance : CallT Try.prog 62 := ⟨Try.call62⟩
instance : CallT Try.prog 63 := ⟨Try.call63⟩
instance : CallT Try.prog 64 := ⟨Try.call64⟩
instance : CallT Try.prog 65 := ⟨Try.call65⟩
instance : CallT Try.prog 66 := ⟨Try.call66⟩
instance : CallT Try.prog 67 := ⟨Try.call67⟩
instance : CallT Try.prog 68 := ⟨Try.call68⟩
instance : CallT Try.prog 69 := ⟨Try.call69⟩
instance : CallT Try.prog 70 := ⟨Try.call70⟩
instance : CallT Try.prog 71 := ⟨Try.call71⟩
instance : CallT Try.prog 72 := ⟨Try.call72⟩
instance : CallT Try.prog 73 := ⟨Try.call73⟩
instance : CallT Try.prog 74 := ⟨Try.call74⟩
instance : CallT Try.prog 75 := ⟨Try.call75⟩
instance : CallT Try.prog 76 := ⟨Try.call76⟩
instance : CallT Try.prog 77 := ⟨Try.call77⟩
instance : CallT Try.prog 78 := ⟨Try.call78⟩
instance : CallT Try.prog 79 := ⟨Try.call79⟩
instance : CallT Try.prog 80 := ⟨Try.call80⟩
instance : CallT Try.prog 81 := ⟨Try.call81⟩
instance : CallT Try.prog 82 := ⟨Try.call82⟩
instance : CallT Try.prog 83 := ⟨Try.call83⟩
instance : CallT Try.prog 84 := ⟨Try.call84⟩
instance : CallT Try.prog 85 := ⟨Try.call85⟩
instance : CallT Try.prog 86 := ⟨Try.call86⟩
instance : CallT Try.prog 87 := ⟨Try.call87⟩
instance : CallT Try.prog 88 := ⟨Try.call88⟩
instance : CallT Try.prog 89 := ⟨Try.call89⟩
instance : CallT Try.prog 90 := ⟨Try.call90⟩
instance : CallT Try.prog 91 := ⟨Try.call91⟩
instance : CallT Try.prog 92 := ⟨Try.call92⟩
instance : CallT Try.prog 93 := ⟨Try.call93⟩
instance : CallT Try.prog 94 := ⟨Try.call94⟩
instance : CallT Try.prog 95 := ⟨Try.call95⟩
instance : CallT Try.prog 96 := ⟨Try.call96⟩
instance : CallT Try.prog 97 := ⟨Try.call97⟩
instance : CallT Try.prog 98 := ⟨Try.call98⟩
instance : CallT Try.prog 99 := ⟨Try.call99⟩
instance : CallT Try.prog 100 := ⟨Try.call100⟩
instance : CallT Try.prog 101 := ⟨Try.call101⟩
instance : CallT Try.prog 102 := ⟨Try.call102⟩
instance : CallT Try.prog 103 := ⟨Try.call103⟩
end B
end Go.Proofs.Ytlofcomnhecgfaa
/- Regions whose order is drawn and whose operations make or write memory: what yields the same value in every world of the region is taken first, the others one by one. No conditions. -/
namespace Go.Proofs.Ytlofcomnhecgfaa
namespace B
set_option linter.unusedVariables false
set_option linter.unusedSimpArgs false

/-- The order of the walk: taken first | the only one that may come up | one of two. -/
inductive Tr where
  | nil
  | take (i : Nat) (t : Tr)
  | one (i : Nat) (t : Tr)
  | two (i : Nat) (t : Tr) (j : Nat) (u : Tr)

def trOk (ops : Array Oper) : Nat → Tr → Array Bool → Bool
  | _, .nil, d => (Region.ready .any ops d).isEmpty
  | k + 1, .take i t, d => Region.free .any ops d i && (Region.ready .any ops d).contains i && trOk ops k t (d.setIfInBounds i true)
  | k + 1, .one i t, d => (match Region.ready .any ops d with | [j] => Nat.beq i j | _ => false) && trOk ops k t (d.setIfInBounds i true)
  | k + 1, .two i t j u, d => (match Region.ready .any ops d with | [i', j'] => Nat.beq i i' && Nat.beq j j' | _ => false) && trOk ops k t (d.setIfInBounds i true) && trOk ops k u (d.setIfInBounds j true)
  | 0, _, _ => false

section
variable {P : Program} {N : Nat} {Q : Post} {e : Env} {w w0 : World} {ops : Array Oper} {ty : TypeId} {S : Nat → Prop} {K' : Value → World → Prop}

def AHeld (P : Program) (ops : Array Oper) (Q : Exit → Act → World → Prop) (C : World → Prop) : Tr → Act → World → Prop
  | .nil, a, w => Q .normal a w
  | .take i t, a, w => ∃ o v, ops[i]? = some o ∧ YieldsIf P ops C o v a ∧ AHeld P ops Q C t (a.put o.dst v) w
  | .one i t, a, w => wpOp P ops Q i (fun a' w' => C w' ∧ AHeld P ops Q C t a' w') a w
  | .two i t j u, a, w => wpOp P ops Q i (fun a' w' => C w' ∧ AHeld P ops Q C t a' w') a w ∧ wpOp P ops Q j (fun a' w' => C w' ∧ AHeld P ops Q C u a' w') a w

theorem AHeld.any {Q : Exit → Act → World → Prop} {C : World → Prop} (hs : Region.noSelect ops = true) (hQ : ∀ c a w, ¬ Q (.panic c) a w) :
    ∀ (t : Tr) (k : Nat) (d : Array Bool) (a : Act) (w : World), trOk ops k t d = true → C w → AHeld P ops Q C t a w → wpAnyH P .any ops Q C k d a w := by
  intro t
  induction t with
  | nil =>
    intro k d a w hk hC h
    have hn : Region.ready .any ops d = [] := by cases k <;> simpa [trOk] using hk
    exact wpAnyH_done hn h k
  | take i t ih =>
    intro k d a w hk hC h
    cases k with
    | zero => exact Bool.noConfusion hk
    | succ k =>
      rw [trOk, Bool.and_eq_true, Bool.and_eq_true] at hk
      obtain ⟨o, v, ho, hy, h⟩ := h
      exact wpAnyH_take ho hs hk.1.1 hk.1.2 (fun c a w h => (hQ _ _ _ h).elim) hy hC (ih k _ _ _ hk.2 hC h)
  | one i t ih =>
    intro k d a w hk hC h
    cases k with
    | zero => exact Bool.noConfusion hk
    | succ k =>
      rw [trOk, Bool.and_eq_true] at hk
      have hr : Region.ready .any ops d = [i] := by
        have := hk.1
        split at this
        · rename_i j hj; rw [hj, Nat.eq_of_beq_eq_true this]
        · cases this
      refine wpAnyH_all hr (by simp) fun j hj => ?_
      obtain rfl : j = i := by simpa using hj
      exact wpOp_mono (fun a' w' h' => ⟨h'.1, ih k _ _ _ hk.2 h'.1 h'.2⟩) h
  | two i t j u iht ihu =>
    intro k d a w hk hC h
    cases k with
    | zero => exact Bool.noConfusion hk
    | succ k =>
      rw [trOk, Bool.and_eq_true, Bool.and_eq_true] at hk
      have hr : Region.ready .any ops d = [i, j] := by
        have := hk.1.1
        split at this
        · rename_i i' j' hj
          rw [Bool.and_eq_true] at this
          rw [hj, Nat.eq_of_beq_eq_true this.1, Nat.eq_of_beq_eq_true this.2]
        · cases this
      refine wpAnyH_all hr (by simp) fun m hm => ?_
      rcases (by simpa using hm : m = i ∨ m = j) with rfl | rfl
      · exact wpOp_mono (fun a' w' h' => ⟨h'.1, iht k _ _ _ hk.1.2 h'.1 h'.2⟩) h.1
      · exact wpOp_mono (fun a' w' h' => ⟨h'.1, ihu k _ _ _ hk.2 h'.1 h'.2⟩) h.2

def calm (Q : Exit → Act → World → Prop) : Exit → Act → World → Prop := fun x a w => match x with | .panic _ => False | x => Q x a w

/-- The walk of such a region from a point on: only blocks of S (and new ones) are written by it. -/
def AL (P : Program) (N : Nat) (ops : Array Oper) (w0 : World) (S : Nat → Prop) (Q : Post) (t : Tr) (e : Env) (w : World) : Prop :=
  Chg S w0 w → ∀ a, Rep N a e → AHeld P ops (calm (lift N Q)) (fun w' => Chg S w0 w') t a w

theorem CW.held {id : Nat} {l : List Oper} (S : Nat → Prop) (t : Tr) (hm : P.follows .mixedOrders = true) (hs : Region.noSelect l.toArray = true)
    (hok : trOk l.toArray l.toArray.size t (Array.replicate l.toArray.size false) = true) (h : ∀ w1, Grow w w1 → AL P N l.toArray w S Q t e w1) : CW P N (.region id l.toArray true) Q e w := by
  intro a ha
  refine Code.wp_mono (Q := calm (lift N Q)) ?_ (wp_region_held (S := fun w' => Chg S w w') hm ?_)
  · intro x a w h
    cases x with
    | panic c => exact h.elim
    | normal => exact h
    | exit id => exact h
    | goto l => exact h
    | ret => exact h
    | outgrown => exact h
  · exact AHeld.any hs (fun c a w h => h) t _ _ _ _ hok (Chg.drew (Chg.refl _ _)) (h _ (Chg.drew (Chg.refl _ _)) (Chg.drew (Chg.refl _ _)) a ha)

theorem AL.know {t : Tr} (h : Chg S w0 w → AL P N ops w0 S Q t e w) : AL P N ops w0 S Q t e w := fun hc => h hc hc
theorem AL.nil (h : Q .normal e w) : AL P N ops w0 S Q .nil e w := fun _ a ha => ⟨e, ha, h⟩

theorem yields_of {o : Oper} {C : World → Prop} {v : Value} {a : Act} (he : a.eval = ev e) (hv : valOp o.op = true) (hw : Region.wanted o (yielded ops a.tmps) = true) (h : ∀ w, C w → OpW P o.op o.type e w fun v' w' => v' = v ∧ w' = w) : YieldsIf P ops C o v a := by
  refine Or.inl ⟨hw, fun w hC => ?_⟩
  have h1 := h w hC
  unfold OpW at h1
  have e1 : execOp a.eval o = execOp (ev e) ⟨none, o.op, o.type, "", #[], none⟩ := by rw [he]; rfl
  rw [e1]
  cases hr : (execOp (ev e) ⟨none, o.op, o.type, "", #[], none⟩).run P w with
  | ok n w' =>
    obtain ⟨u, rfl⟩ := not_enter hv hr
    rw [hr] at h1
    simp only [upon] at h1
    rw [h1.1, h1.2]
  | halt x w' => rw [hr] at h1; simp only [upon] at h1

theorem AL.take {i d : Nat} {op : Op} {v : Value} {pos : String} {after : Array Edge} {t : Tr} (hi : ops[i]? = some ⟨some d, op, ty, pos, after, none⟩) (hd : Nat.blt d N = true) (hv : valOp op = true)
    (h : ∀ w, Chg S w0 w → OpW P op ty e w fun v' w' => v' = v ∧ w' = w) (hn : AL P N ops w0 S Q t (upd e d v) w) : AL P N ops w0 S Q (.take i t) e w :=
  fun hc a ha => ⟨_, v, hi, yields_of ha.eval hv rfl h, hn hc _ (ha.put (blt_lt hd) v)⟩
theorem AL.gtake {i d j dj : Nat} {want : Bool} {op : Op} {v : Value} {pos : String} {after : Array Edge} {t : Tr} (hi : ops[i]? = some ⟨some d, op, ty, pos, after, some (j, want)⟩) (hj : (ops[j]?).bind (·.dst) = some dj) (hn' : Nat.blt dj N = true) (hd : Nat.blt d N = true) (hb : e dj = .bool want) (hv : valOp op = true)
    (h : ∀ w, Chg S w0 w → OpW P op ty e w fun v' w' => v' = v ∧ w' = w) (hn : AL P N ops w0 S Q t (upd e d v) w) : AL P N ops w0 S Q (.take i t) e w :=
  fun hc a ha => ⟨_, v, hi, yields_of ha.eval hv (by rw [wanted_of (N := N) (e := e) ha rfl hj hn' hb]; simp) h, hn hc _ (ha.put (blt_lt hd) v)⟩
theorem AL.gskip {i d j dj : Nat} {want : Bool} {op : Op} {pos : String} {after : Array Edge} {t : Tr} (hi : ops[i]? = some ⟨some d, op, ty, pos, after, some (j, want)⟩) (hj : (ops[j]?).bind (·.dst) = some dj) (hn' : Nat.blt dj N = true) (hd : Nat.blt d N = true) (hb : e dj = .bool (!want))
    (hn : AL P N ops w0 S Q t (upd e d undef) w) : AL P N ops w0 S Q (.take i t) e w :=
  fun hc a ha => ⟨_, undef, hi, Or.inr ⟨by rw [wanted_of (N := N) (e := e) ha rfl hj hn' hb]; cases want <;> rfl, rfl⟩, hn hc _ (ha.put (blt_lt hd) undef)⟩

theorem AL.one {i d : Nat} {op : Op} {pos : String} {after : Array Edge} {t : Tr} (hi : ops[i]? = some ⟨some d, op, ty, pos, after, none⟩) (hd : Nat.blt d N = true)
    (h : OpW P op ty e w fun v w' => (Chg S w0 w → Chg S w0 w') ∧ AL P N ops w0 S Q t (upd e d v) w') : AL P N ops w0 S Q (.one i t) e w := by
  intro hc a ha
  show wpOp P ops _ i _ a w
  unfold wpOp
  simp only [hi]
  rw [if_pos (c := Region.wanted _ (yielded ops a.tmps) = true) rfl]
  exact Or.inl (OpW.toWp ha.eval (h.mono fun v w' ⟨h1, h2⟩ => ⟨h1 hc, h2 (h1 hc) _ (ha.put (blt_lt hd) v)⟩))
theorem AL.one0 {i : Nat} {op : Op} {pos : String} {after : Array Edge} {t : Tr} (hi : ops[i]? = some ⟨none, op, ty, pos, after, none⟩)
    (h : OpW P op ty e w fun v w' => (Chg S w0 w → Chg S w0 w') ∧ AL P N ops w0 S Q t e w') : AL P N ops w0 S Q (.one i t) e w := by
  intro hc a ha
  show wpOp P ops _ i _ a w
  unfold wpOp
  simp only [hi]
  rw [if_pos (c := Region.wanted _ (yielded ops a.tmps) = true) rfl]
  exact Or.inl (OpW.toWp (o := ⟨none, op, ty, pos, after, none⟩) ha.eval (h.mono fun v w' ⟨h1, h2⟩ => ⟨h1 hc, h2 (h1 hc) _ ha⟩))
theorem AL.gone {i d j dj : Nat} {want : Bool} {op : Op} {pos : String} {after : Array Edge} {t : Tr} (hi : ops[i]? = some ⟨some d, op, ty, pos, after, some (j, want)⟩) (hj : (ops[j]?).bind (·.dst) = some dj) (hn' : Nat.blt dj N = true) (hd : Nat.blt d N = true) (hb : e dj = .bool want)
    (h : OpW P op ty e w fun v w' => (Chg S w0 w → Chg S w0 w') ∧ AL P N ops w0 S Q t (upd e d v) w') : AL P N ops w0 S Q (.one i t) e w := by
  intro hc a ha
  show wpOp P ops _ i _ a w
  unfold wpOp
  simp only [hi]
  rw [if_pos (by rw [wanted_of (N := N) (e := e) ha rfl hj hn' hb]; simp)]
  exact Or.inl (OpW.toWp ha.eval (h.mono fun v w' ⟨h1, h2⟩ => ⟨h1 hc, h2 (h1 hc) _ (ha.put (blt_lt hd) v)⟩))
theorem AL.goneSkip {i d j dj : Nat} {want : Bool} {op : Op} {pos : String} {after : Array Edge} {t : Tr} (hi : ops[i]? = some ⟨some d, op, ty, pos, after, some (j, want)⟩) (hj : (ops[j]?).bind (·.dst) = some dj) (hn' : Nat.blt dj N = true) (hd : Nat.blt d N = true) (hb : e dj = .bool (!want))
    (hn : AL P N ops w0 S Q t (upd e d undef) w) : AL P N ops w0 S Q (.one i t) e w := by
  intro hc a ha
  show wpOp P ops _ i _ a w
  unfold wpOp
  simp only [hi]
  rw [if_neg (by rw [wanted_of (N := N) (e := e) ha rfl hj hn' hb]; cases want <;> simp)]
  exact ⟨hc, hn hc _ (ha.put (blt_lt hd) undef)⟩
theorem AL.two {i j : Nat} {t u : Tr} (h1 : AL P N ops w0 S Q (.one i t) e w) (h2 : AL P N ops w0 S Q (.one j u) e w) : AL P N ops w0 S Q (.two i t j u) e w :=
  fun hc a ha => ⟨h1 hc a ha, h2 hc a ha⟩

/-- Bytes behind bytes of the own: seen from a world in which these weren't yet. -/
theorem OpW.appBZ {Z : Nat → Prop} {t t' by_ n cap m' c : Nat} {z : Value} {x y : Operand} {A B : Option Addr} {l m : List UInt8} [ht : ElemT P t 5 1 by_ z] (hb : by_ = 1 := by rfl) (hx : ev e x = .slice A n cap) (hy : ev e y = .slice B m' c) (hn : n = l.length) (hm : m' = m.length) (htt : t' = t) (ho : Own w A 5 1 l.length cap (bvs l) Z) (hs : Sl w B (bvs m)) (hg : Grow w0 w)
    (hZ : ∀ b, Z b → w0.heap.size ≤ b) (hZ2 : ∀ b, w.heap.size ≤ b → Z b) (hroom : l.length + m.length ≤ 140737488355328)
    (h : ∀ A' cap' w', Own w' A' 5 1 (l ++ m).length cap' (bvs (l ++ m)) Z → Grow w0 w' → Chg (fun b => ∃ a, A = some a ∧ a.block = b) w w' → K' (.slice A' (l ++ m).length cap') w') :
    OpW P (.call ⟨.builtin .append, #[x, y], #[t, t']⟩) ty e w K' := by
  subst hn hm hb
  refine OpW.append hx hy htt ho hs (bvs_len1 m) (bvs_one m) ⟨by omega, hroom⟩ fun A' cap' w' h1 h2 h3 => ?_
  rw [← List.length_append, ← bvs_append] at h1
  rw [← List.length_append]
  refine h A' cap' w' (h1.mono ?_) (hg.chgNew h2 ?_) h2
  · intro b hb
    rcases hb with ⟨a, ha, rfl⟩ | hb
    · exact (ho.in_ ha).1
    · exact hZ2 b hb
  · rintro i hi ⟨a, ha, rfl⟩
    have := hZ _ (ho.in_ ha).1
    omega
theorem OpW.appB {t t' by_ n cap m' c : Nat} {z : Value} {x y : Operand} {A B : Option Addr} {l m : List UInt8} [ht : ElemT P t 5 1 by_ z] (hb : by_ = 1 := by rfl) (hx : ev e x = .slice A n cap) (hy : ev e y = .slice B m' c) (hn : n = l.length) (hm : m' = m.length) (htt : t' = t) (ho : Own w A 5 1 l.length cap (bvs l) (fresh w0)) (hs : Sl w B (bvs m)) (hg : Grow w0 w)
    (hroom : l.length + m.length ≤ 140737488355328)
    (h : ∀ A' cap' w', Own w' A' 5 1 (l ++ m).length cap' (bvs (l ++ m)) (fresh w0) → Grow w0 w' → Chg (fun b => ∃ a, A = some a ∧ a.block = b) w w' → K' (.slice A' (l ++ m).length cap') w') :
    OpW P (.call ⟨.builtin .append, #[x, y], #[t, t']⟩) ty e w K' :=
  OpW.appBZ hb hx hy hn hm htt ho hs hg (fun _ h => h) (fun b hb => Nat.le_trans hg.size hb) hroom h

/-- What is guarded by something that was itself passed over. -/
theorem wanted_undef {o : Oper} {a : Act} {j dj : Nat} {want : Bool} (hr : Rep N a e) (hg : o.guard = some (j, want)) (hj : (ops[j]?).bind (·.dst) = some dj) (hn : Nat.blt dj N = true) (hb : e dj = undef) :
    Region.wanted o (yielded ops a.tmps) = false := by
  have := hr.slot (blt_lt hn)
  simp [Region.wanted, hg, yielded, hj, this, hb, undef]
theorem WL.gskipU {d j dj : Nat} {want : Bool} {op : Op} {pos : String} {after : Array Edge} {rest : List Oper} (hj : (ops[j]?).bind (·.dst) = some dj) (hn : Nat.blt dj N = true) (hd : Nat.blt d N = true)
    (hb : e dj = undef) (h : WL P N ops Q rest (upd e d undef) w) : WL P N ops Q (⟨some d, op, ty, pos, after, some (j, want)⟩ :: rest) e w := by
  intro a ha
  refine wpList_step fun K hK => ?_
  rw [if_neg (by rw [wanted_undef (N := N) (e := e) ha rfl hj hn hb]; simp)]
  exact hK _ _ (h _ (ha.put (blt_lt hd) undef))
theorem AL.gskipU {i d j dj : Nat} {want : Bool} {op : Op} {pos : String} {after : Array Edge} {t : Tr} (hi : ops[i]? = some ⟨some d, op, ty, pos, after, some (j, want)⟩) (hj : (ops[j]?).bind (·.dst) = some dj) (hn' : Nat.blt dj N = true) (hd : Nat.blt d N = true) (hb : e dj = undef)
    (hn : AL P N ops w0 S Q t (upd e d undef) w) : AL P N ops w0 S Q (.take i t) e w :=
  fun hc a ha => ⟨_, undef, hi, Or.inr ⟨wanted_undef (N := N) (e := e) ha rfl hj hn' hb, rfl⟩, hn hc _ (ha.put (blt_lt hd) undef)⟩
theorem AL.goneSkipU {i d j dj : Nat} {want : Bool} {op : Op} {pos : String} {after : Array Edge} {t : Tr} (hi : ops[i]? = some ⟨some d, op, ty, pos, after, some (j, want)⟩) (hj : (ops[j]?).bind (·.dst) = some dj) (hn' : Nat.blt dj N = true) (hd : Nat.blt d N = true) (hb : e dj = undef)
    (hn : AL P N ops w0 S Q t (upd e d undef) w) : AL P N ops w0 S Q (.one i t) e w := by
  intro hc a ha
  show wpOp P ops _ i _ a w
  unfold wpOp
  simp only [hi]
  rw [if_neg (by rw [wanted_undef (N := N) (e := e) ha rfl hj hn' hb]; simp)]
  exact ⟨hc, hn hc _ (ha.put (blt_lt hd) undef)⟩

attribute [local irreducible] OpW WL CW Ret Sl Blk thn blk outOf
/-- Taken first, the value found by itself. The region reads none of the blocks that it writes, or what it reads of them is told by hand. -/
theorem AL.auto {i d : Nat} {op : Op} {v : Value} {pos : String} {after : Array Edge} {t : Tr} (hi : ops[i]? = some ⟨some d, op, ty, pos, after, none⟩ := by rfl) (hd : Nat.blt d N = true := by rfl) (hv : valOp op = true := by rfl)
    (ho : ∀ w, Chg S w0 w → OpV P op ty e w v := by
      intro w hg K hK
      (first
 | (show OpW _ (.move _) _ _ _ _; first | exact OpW.move (v := .int _ _) rfl hK | exact OpW.move (v := .bool _) rfl hK | exact OpW.move (v := .slice _ _ _) rfl hK | exact OpW.move (v := .pointer _) rfl hK | exact OpW.move (v := .string _) rfl hK | exact OpW.move (v := .agg _) rfl hK | exact OpW.move (v := .tuple _) rfl hK | exact OpW.move (v := .func _ _ _) rfl hK)
 | (show OpW _ (.assign _) _ _ _ _; first | exact OpW.assign (v := .int _ _) rfl hK | exact OpW.assign (v := .bool _) rfl hK | exact OpW.assign (v := .slice _ _ _) rfl hK | exact OpW.assign (v := .pointer _) rfl hK | exact OpW.assign (v := .string _) rfl hK | exact OpW.assign (v := .agg _) rfl hK | exact OpW.assign (v := .tuple _) rfl hK | exact OpW.assign (v := .func _ _ _) rfl hK)
 | (show OpW _ (.nilCheck _) _ _ _ _; first | exact OpW.nilCheck rfl hK)
 | (show OpW _ (.fieldAddr _ _ _) _ _ _ _; first | exact OpW.fieldAddr rfl hK | exact OpW.fieldAddrS rfl (by assumption) hK)
 | (show OpW _ (.load _ _) _ _ _ _; first | exact OpW.load (v := .int _ _) rfl (Blk.grow (by assumption) hg) rfl hK | exact OpW.load (v := .slice _ _ _) rfl (Blk.grow (by assumption) hg) rfl hK | exact OpW.load (v := .bool _) rfl (Blk.grow (by assumption) hg) rfl hK | exact OpW.load (v := .pointer _) rfl (Blk.grow (by assumption) hg) rfl hK | exact OpW.load (v := .string _) rfl (Blk.grow (by assumption) hg) rfl hK | exact OpW.loadS rfl (Sl.grow (by assumption) hg) (by first | assumption | rfl) hK | exact OpW.load rfl (Blk.keep (by assumption) hg (by assumption)) rfl hK | exact OpW.loadS rfl (Sl.keep (by assumption) hg (by assumption)) (by first | assumption | rfl) hK)
 | (show OpW _ (.binOp .lss _ _ _ _) _ _ _ _; first | exact OpW.lss rfl rfl hK | exact OpW.lssStr rfl rfl hK)
 | (show OpW _ (.binOp .leq _ _ _ _) _ _ _ _; first | exact OpW.leq rfl rfl hK)
 | (show OpW _ (.binOp .gtr _ _ _ _) _ _ _ _; first | exact OpW.gtr rfl rfl hK)
 | (show OpW _ (.binOp .geq _ _ _ _) _ _ _ _; first | exact OpW.geq rfl rfl hK)
 | (show OpW _ (.binOp .eql _ _ _ _) _ _ _ _; first | exact OpW.eqlI rfl rfl hK | exact OpW.eqlP rfl rfl hK | exact OpW.eqlS rfl rfl hK | exact OpW.eqlStr rfl rfl hK | exact OpW.eqlB rfl rfl hK)
 | (show OpW _ (.binOp .neq _ _ _ _) _ _ _ _; first | exact OpW.neqI rfl rfl hK | exact OpW.neqP rfl rfl hK | exact OpW.neqStr rfl rfl hK | exact OpW.neqB rfl rfl hK)
 | (show OpW _ (.binOp .add _ _ _ _) _ _ _ _; first | exact OpW.addI _ rfl rfl ⟨rfl, by omega, by omega⟩ hK | exact OpW.addU _ rfl rfl ⟨rfl, by omega, by omega⟩ hK | exact OpW.addS rfl rfl (by omega) hK)
 | (show OpW _ (.binOp .sub _ _ _ _) _ _ _ _; first | exact OpW.subI _ rfl rfl ⟨rfl, by omega, by omega⟩ hK)
 | (show OpW _ (.binOp .mul _ _ _ _) _ _ _ _; first | exact OpW.mulI _ rfl rfl ⟨rfl, by omega, by omega⟩ hK)
 | (show OpW _ (.convert _ _ _) _ _ _ _; first | exact OpW.convByte rfl hK | exact OpW.convU64 rfl ⟨by omega, by omega⟩ hK | exact OpW.convI64 rfl ⟨by omega, by omega⟩ hK)
 | (show OpW _ (.call ⟨.builtin .len, _, _⟩) _ _ _ _; first | exact OpW.len rfl hK | exact OpW.lenStr rfl hK)
 | (show OpW _ (.call ⟨.builtin .cap, _, _⟩) _ _ _ _; first | exact OpW.cap rfl hK)
 | (show OpW _ (.call ⟨.builtin .min, _, _⟩) _ _ _ _; first | exact OpW.min rfl rfl hK)
 | (show OpW _ (.call ⟨.builtin .max, _, _⟩) _ _ _ _; first | exact OpW.max rfl rfl hK)
 | (show OpW _ (.unOp .not _ _) _ _ _ _; first | exact OpW.notP rfl hK | exact OpW.not rfl hK)
 | (show OpW _ (.extract _ _) _ _ _ _; first | exact OpW.extract (v := .int _ _) rfl rfl hK | exact OpW.extract (v := .bool _) rfl rfl hK | exact OpW.extract (v := .slice _ _ _) rfl rfl hK | exact OpW.extract (v := .pointer _) rfl rfl hK | exact OpW.extract (v := .string _) rfl rfl hK | exact OpW.extract (v := .agg _) rfl rfl hK | exact OpW.extract (v := .tuple _) rfl rfl hK | exact OpW.extract (v := .func _ _ _) rfl rfl hK)
 | (show OpW _ (.pick _ _ _) _ _ _ _; first | exact OpW.pickT (v := .bool _) rfl rfl hK | exact OpW.pickF (v := .bool _) rfl rfl hK)))
    (hn : AL P N ops w0 S Q t (upd e d v) w) : AL P N ops w0 S Q (.take i t) e w :=
  AL.take hi hd hv (fun w hg => ho w hg _ ⟨rfl, rfl⟩) hn
theorem AL.gauto {i d j dj : Nat} {want : Bool} {op : Op} {v : Value} {pos : String} {after : Array Edge} {t : Tr} (hi : ops[i]? = some ⟨some d, op, ty, pos, after, some (j, want)⟩ := by rfl) (hj : (ops[j]?).bind (·.dst) = some dj := by rfl) (hn' : Nat.blt dj N = true := by rfl) (hd : Nat.blt d N = true := by rfl) (hb : e dj = .bool want := by rfl) (hv : valOp op = true := by rfl)
    (ho : ∀ w, Chg S w0 w → OpV P op ty e w v := by
      intro w hg K hK
      (first
 | (show OpW _ (.move _) _ _ _ _; first | exact OpW.move (v := .int _ _) rfl hK | exact OpW.move (v := .bool _) rfl hK | exact OpW.move (v := .slice _ _ _) rfl hK | exact OpW.move (v := .pointer _) rfl hK | exact OpW.move (v := .string _) rfl hK | exact OpW.move (v := .agg _) rfl hK | exact OpW.move (v := .tuple _) rfl hK | exact OpW.move (v := .func _ _ _) rfl hK)
 | (show OpW _ (.assign _) _ _ _ _; first | exact OpW.assign (v := .int _ _) rfl hK | exact OpW.assign (v := .bool _) rfl hK | exact OpW.assign (v := .slice _ _ _) rfl hK | exact OpW.assign (v := .pointer _) rfl hK | exact OpW.assign (v := .string _) rfl hK | exact OpW.assign (v := .agg _) rfl hK | exact OpW.assign (v := .tuple _) rfl hK | exact OpW.assign (v := .func _ _ _) rfl hK)
 | (show OpW _ (.nilCheck _) _ _ _ _; first | exact OpW.nilCheck rfl hK)
 | (show OpW _ (.fieldAddr _ _ _) _ _ _ _; first | exact OpW.fieldAddr rfl hK | exact OpW.fieldAddrS rfl (by assumption) hK)
 | (show OpW _ (.load _ _) _ _ _ _; first | exact OpW.load (v := .int _ _) rfl (Blk.grow (by assumption) hg) rfl hK | exact OpW.load (v := .slice _ _ _) rfl (Blk.grow (by assumption) hg) rfl hK | exact OpW.load (v := .bool _) rfl (Blk.grow (by assumption) hg) rfl hK | exact OpW.load (v := .pointer _) rfl (Blk.grow (by assumption) hg) rfl hK | exact OpW.load (v := .string _) rfl (Blk.grow (by assumption) hg) rfl hK | exact OpW.loadS rfl (Sl.grow (by assumption) hg) (by first | assumption | rfl) hK | exact OpW.load rfl (Blk.keep (by assumption) hg (by assumption)) rfl hK | exact OpW.loadS rfl (Sl.keep (by assumption) hg (by assumption)) (by first | assumption | rfl) hK)
 | (show OpW _ (.binOp .lss _ _ _ _) _ _ _ _; first | exact OpW.lss rfl rfl hK | exact OpW.lssStr rfl rfl hK)
 | (show OpW _ (.binOp .leq _ _ _ _) _ _ _ _; first | exact OpW.leq rfl rfl hK)
 | (show OpW _ (.binOp .gtr _ _ _ _) _ _ _ _; first | exact OpW.gtr rfl rfl hK)
 | (show OpW _ (.binOp .geq _ _ _ _) _ _ _ _; first | exact OpW.geq rfl rfl hK)
 | (show OpW _ (.binOp .eql _ _ _ _) _ _ _ _; first | exact OpW.eqlI rfl rfl hK | exact OpW.eqlP rfl rfl hK | exact OpW.eqlS rfl rfl hK | exact OpW.eqlStr rfl rfl hK | exact OpW.eqlB rfl rfl hK)
 | (show OpW _ (.binOp .neq _ _ _ _) _ _ _ _; first | exact OpW.neqI rfl rfl hK | exact OpW.neqP rfl rfl hK | exact OpW.neqStr rfl rfl hK | exact OpW.neqB rfl rfl hK)
 | (show OpW _ (.binOp .add _ _ _ _) _ _ _ _; first | exact OpW.addI _ rfl rfl ⟨rfl, by omega, by omega⟩ hK | exact OpW.addU _ rfl rfl ⟨rfl, by omega, by omega⟩ hK | exact OpW.addS rfl rfl (by omega) hK)
 | (show OpW _ (.binOp .sub _ _ _ _) _ _ _ _; first | exact OpW.subI _ rfl rfl ⟨rfl, by omega, by omega⟩ hK)
 | (show OpW _ (.binOp .mul _ _ _ _) _ _ _ _; first | exact OpW.mulI _ rfl rfl ⟨rfl, by omega, by omega⟩ hK)
 | (show OpW _ (.convert _ _ _) _ _ _ _; first | exact OpW.convByte rfl hK | exact OpW.convU64 rfl ⟨by omega, by omega⟩ hK | exact OpW.convI64 rfl ⟨by omega, by omega⟩ hK)
 | (show OpW _ (.call ⟨.builtin .len, _, _⟩) _ _ _ _; first | exact OpW.len rfl hK | exact OpW.lenStr rfl hK)
 | (show OpW _ (.call ⟨.builtin .cap, _, _⟩) _ _ _ _; first | exact OpW.cap rfl hK)
 | (show OpW _ (.call ⟨.builtin .min, _, _⟩) _ _ _ _; first | exact OpW.min rfl rfl hK)
 | (show OpW _ (.call ⟨.builtin .max, _, _⟩) _ _ _ _; first | exact OpW.max rfl rfl hK)
 | (show OpW _ (.unOp .not _ _) _ _ _ _; first | exact OpW.notP rfl hK | exact OpW.not rfl hK)
 | (show OpW _ (.extract _ _) _ _ _ _; first | exact OpW.extract (v := .int _ _) rfl rfl hK | exact OpW.extract (v := .bool _) rfl rfl hK | exact OpW.extract (v := .slice _ _ _) rfl rfl hK | exact OpW.extract (v := .pointer _) rfl rfl hK | exact OpW.extract (v := .string _) rfl rfl hK | exact OpW.extract (v := .agg _) rfl rfl hK | exact OpW.extract (v := .tuple _) rfl rfl hK | exact OpW.extract (v := .func _ _ _) rfl rfl hK)
 | (show OpW _ (.pick _ _ _) _ _ _ _; first | exact OpW.pickT (v := .bool _) rfl rfl hK | exact OpW.pickF (v := .bool _) rfl rfl hK)))
    (hn : AL P N ops w0 S Q t (upd e d v) w) : AL P N ops w0 S Q (.take i t) e w :=
  AL.gtake hi hj hn' hd hb hv (fun w hg => ho w hg _ ⟨rfl, rfl⟩) hn
/-- One by one, where nothing is made: an assignment above all. -/
theorem AL.oauto {i d : Nat} {op : Op} {v : Value} {pos : String} {after : Array Edge} {t : Tr} (hi : ops[i]? = some ⟨some d, op, ty, pos, after, none⟩ := by rfl) (hd : Nat.blt d N = true := by rfl) (hv : valOp op = true := by rfl)
    (ho : OpV P op ty e w v := by
      intro K hK
      (first
 | (show OpW _ (.move _) _ _ _ _; first | exact OpW.move (v := .int _ _) rfl hK | exact OpW.move (v := .bool _) rfl hK | exact OpW.move (v := .slice _ _ _) rfl hK | exact OpW.move (v := .pointer _) rfl hK | exact OpW.move (v := .string _) rfl hK | exact OpW.move (v := .agg _) rfl hK | exact OpW.move (v := .tuple _) rfl hK | exact OpW.move (v := .func _ _ _) rfl hK)
 | (show OpW _ (.assign _) _ _ _ _; first | exact OpW.assign (v := .int _ _) rfl hK | exact OpW.assign (v := .bool _) rfl hK | exact OpW.assign (v := .slice _ _ _) rfl hK | exact OpW.assign (v := .pointer _) rfl hK | exact OpW.assign (v := .string _) rfl hK | exact OpW.assign (v := .agg _) rfl hK | exact OpW.assign (v := .tuple _) rfl hK | exact OpW.assign (v := .func _ _ _) rfl hK)
 | (show OpW _ (.nilCheck _) _ _ _ _; first | exact OpW.nilCheck rfl hK)
 | (show OpW _ (.fieldAddr _ _ _) _ _ _ _; first | exact OpW.fieldAddr rfl hK | exact OpW.fieldAddrS rfl (by assumption) hK)
 | (show OpW _ (.load _ _) _ _ _ _; first | exact OpW.load (v := .int _ _) rfl (by assumption) rfl hK | exact OpW.load (v := .slice _ _ _) rfl (by assumption) rfl hK | exact OpW.load (v := .bool _) rfl (by assumption) rfl hK | exact OpW.load (v := .pointer _) rfl (by assumption) rfl hK | exact OpW.load (v := .string _) rfl (by assumption) rfl hK | exact OpW.loadS rfl (by assumption) (by first | assumption | rfl) hK)
 | (show OpW _ (.binOp .lss _ _ _ _) _ _ _ _; first | exact OpW.lss rfl rfl hK | exact OpW.lssStr rfl rfl hK)
 | (show OpW _ (.binOp .leq _ _ _ _) _ _ _ _; first | exact OpW.leq rfl rfl hK)
 | (show OpW _ (.binOp .gtr _ _ _ _) _ _ _ _; first | exact OpW.gtr rfl rfl hK)
 | (show OpW _ (.binOp .geq _ _ _ _) _ _ _ _; first | exact OpW.geq rfl rfl hK)
 | (show OpW _ (.binOp .eql _ _ _ _) _ _ _ _; first | exact OpW.eqlI rfl rfl hK | exact OpW.eqlP rfl rfl hK | exact OpW.eqlS rfl rfl hK | exact OpW.eqlStr rfl rfl hK | exact OpW.eqlB rfl rfl hK)
 | (show OpW _ (.binOp .neq _ _ _ _) _ _ _ _; first | exact OpW.neqI rfl rfl hK | exact OpW.neqP rfl rfl hK | exact OpW.neqStr rfl rfl hK | exact OpW.neqB rfl rfl hK)
 | (show OpW _ (.binOp .add _ _ _ _) _ _ _ _; first | exact OpW.addI _ rfl rfl ⟨rfl, by omega, by omega⟩ hK | exact OpW.addU _ rfl rfl ⟨rfl, by omega, by omega⟩ hK | exact OpW.addS rfl rfl (by omega) hK)
 | (show OpW _ (.binOp .sub _ _ _ _) _ _ _ _; first | exact OpW.subI _ rfl rfl ⟨rfl, by omega, by omega⟩ hK)
 | (show OpW _ (.binOp .mul _ _ _ _) _ _ _ _; first | exact OpW.mulI _ rfl rfl ⟨rfl, by omega, by omega⟩ hK)
 | (show OpW _ (.convert _ _ _) _ _ _ _; first | exact OpW.convByte rfl hK | exact OpW.convU64 rfl ⟨by omega, by omega⟩ hK | exact OpW.convI64 rfl ⟨by omega, by omega⟩ hK)
 | (show OpW _ (.call ⟨.builtin .len, _, _⟩) _ _ _ _; first | exact OpW.len rfl hK | exact OpW.lenStr rfl hK)
 | (show OpW _ (.call ⟨.builtin .cap, _, _⟩) _ _ _ _; first | exact OpW.cap rfl hK)
 | (show OpW _ (.call ⟨.builtin .min, _, _⟩) _ _ _ _; first | exact OpW.min rfl rfl hK)
 | (show OpW _ (.call ⟨.builtin .max, _, _⟩) _ _ _ _; first | exact OpW.max rfl rfl hK)
 | (show OpW _ (.unOp .not _ _) _ _ _ _; first | exact OpW.notP rfl hK | exact OpW.not rfl hK)
 | (show OpW _ (.extract _ _) _ _ _ _; first | exact OpW.extract (v := .int _ _) rfl rfl hK | exact OpW.extract (v := .bool _) rfl rfl hK | exact OpW.extract (v := .slice _ _ _) rfl rfl hK | exact OpW.extract (v := .pointer _) rfl rfl hK | exact OpW.extract (v := .string _) rfl rfl hK | exact OpW.extract (v := .agg _) rfl rfl hK | exact OpW.extract (v := .tuple _) rfl rfl hK | exact OpW.extract (v := .func _ _ _) rfl rfl hK)
 | (show OpW _ (.pick _ _ _) _ _ _ _; first | exact OpW.pickT (v := .bool _) rfl rfl hK | exact OpW.pickF (v := .bool _) rfl rfl hK)))
    (hn : AL P N ops w0 S Q t (upd e d v) w) : AL P N ops w0 S Q (.one i t) e w :=
  AL.one hi hd (ho _ ⟨id, hn⟩)
end
end B
end Go.Proofs.Ytlofcomnhecgfaa
/- Bytes written in place. No conditions. -/
namespace Go.Proofs.Ytlofcomnhecgfaa
namespace B
set_option linter.unusedVariables false
set_option linter.unusedSimpArgs false
section
variable {P : Program} {N : Nat} {Q : Post} {e : Env} {w w0 : World} {ty : TypeId} {K : Value → World → Prop}

theorem bvs_set (l : List UInt8) (i : Nat) (u : UInt8) : bvs (l.set i u) = (bvs l).set i (bv u) := by simp [bvs, List.map_set]
theorem xor_u8 (a b : UInt8) : Op.intBits .xor .u8 (a.toNat : Int) (b.toNat : Int) = pure (.int .u8 ((a ^^^ b).toNat : Int)) := by
  have h : (a ^^^ b).toNat = a.toNat ^^^ b.toNat := by simp
  have hlt : a.toNat ^^^ b.toNat < 256 := Nat.xor_lt_two_pow (n := 8) a.toNat_lt b.toNat_lt
  have ha := a.toNat_lt
  have hb := b.toNat_lt
  rw [h]
  have e1 : BitVec.ofInt 8 (a.toNat : Int) = BitVec.ofNat 8 a.toNat := BitVec.ofInt_natCast 8 _
  have e2 : BitVec.ofInt 8 (b.toNat : Int) = BitVec.ofNat 8 b.toNat := BitVec.ofInt_natCast 8 _
  have h3 : (BitVec.ofNat 8 a.toNat ^^^ BitVec.ofNat 8 b.toNat).toNat = a.toNat ^^^ b.toNat := by
    rw [BitVec.toNat_xor, BitVec.toNat_ofNat, BitVec.toNat_ofNat, Nat.mod_eq_of_lt (by omega), Nat.mod_eq_of_lt (by omega)]
  show (pure (Value.int .u8 (IntKind.u8.wrap ((BitVec.ofInt 8 (a.toNat : Int) ^^^ BitVec.ofInt 8 (b.toNat : Int)).toNat : Int))) : Sem Value) = _
  rw [e1, e2, h3]
  congr 2
  unfold IntKind.wrap
  simp [IntKind.signed, IntKind.bits]
  omega
/-- Two bytes, one upon the other. -/
theorem OpW.xorByte {t t' : TypeId} {x y : Operand} {a : UInt8} {j : Int} (b : UInt8) (hx : ev e x = .int .u8 (a.toNat : Int)) (hy : ev e y = .int .u8 j) (hj : j = (b.toNat : Int)) (h : K (.int .u8 ((a ^^^ b).toNat : Int)) w) : OpW P (.binOp .xor t x y t') ty e w K := by
  subst hj
  refine OpW.bits (op := .xor) _ hx hy (by rw [xor_u8]; rfl) (Or.inr (Or.inr rfl)) h

/-- One cell of a slice of the own is written. -/
theorem OpW.storeOwn {t E n cap i : Nat} {x y : Operand} {A : Option Addr} {xs : List Value} {Z : Nat → Prop} {v : Value} [ht : SizeT P t 1] (hx : ev e x = .pointer (at_ A (i * 1))) (hy : ev e y = v) (hv : v.oneCell' = true) (ho : Own w A E 1 n cap xs Z) (hi : i < n)
    (h : ∀ w', Own w' A E 1 n cap (xs.set i v) Z → Chg (fun b => ∃ a, A = some a ∧ a.block = b) w w' → w'.heap.size = w.heap.size → K undef w') : OpW P (.store t x y) ty e w K := by
  obtain ⟨hl, h2 | ⟨g, cur, h1, h2, h3, h4, h5, h6, h7⟩⟩ := ho
  · omega
  · subst h1
    have hcur : i < cur.size := by omega
    refine OpW.store (b := g) (o := i) (c := cur) (E := E) (v := v) (by rw [hx]; simp [at_]) hy hv h3 (by unfold Nat.blt; exact Nat.ble_eq_true_of_le hcur) rfl ?_
    intro w' hp hb
    refine h w' ⟨by simpa using hl, Or.inr ⟨g, _, rfl, h2, hb, h4, h5, by simpa using h6, ?_⟩⟩ (hp.chg.mono fun k _ hk => ⟨_, rfl, hk.symm⟩) hp.size
    rw [← h7]
    have : ∀ (l : List Value) (n i : Nat), (l.set i v).take n = (l.take n).set i v := by
      intro l
      induction l with
      | nil => intro n i; simp
      | cons u l ih => intro n i; cases n <;> cases i <;> simp [ih]
    simp [this]
end
end B
end Go.Proofs.Ytlofcomnhecgfaa
