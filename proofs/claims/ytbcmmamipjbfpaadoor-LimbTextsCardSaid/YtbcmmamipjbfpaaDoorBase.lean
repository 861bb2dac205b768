/- Rules of the walk: a function's temporaries as a function of their numbers; one rule for each form of code and each operation. No conditions. -/
import Derived.Tactics
import Derived.Below
import Derived.Deep.LoopGhost
import Derived.Orders
namespace Go.Proofs.YtbcmmamipjbfpaaDoor
namespace B

/-! ### The temporaries -/
abbrev Env := Nat → Value
def upd (e : Env) (d : Nat) (v : Value) : Env := fun t => bif Nat.beq t d then v else e t
def ev (e : Env) : Operand → Value
  | .tmp t => e t
  | .const v => v
  | .global g => .pointer (some ⟨g, 0, none⟩)
  | .func f => .func (.func f) #[] #[]

theorem blt_lt {d n : Nat} (h : Nat.blt d n = true) : d < n := Nat.le_of_ble_eq_true h

theorem upd_self (e : Env) (d : Nat) (v : Value) (h : e d = v) : upd e d v = e := by
  funext t
  unfold upd
  cases ht : Nat.beq t d with
  | true => rw [cond_true, ← h, Nat.eq_of_beq_eq_true ht]
  | false => rw [cond_false]

theorem rep1 {E : Env} {i1 : Nat} {v1 : Value} (h1 : E i1 = v1) : ∃ e0, E = upd e0 i1 v1 := ⟨E, by rw [upd_self _ _ _ h1]⟩
theorem rep2 {E : Env} {i1 : Nat} {v1 : Value} {i2 : Nat} {v2 : Value} (h1 : E i1 = v1) (h2 : E i2 = v2) : ∃ e0, E = upd (upd e0 i1 v1) i2 v2 := ⟨E, by rw [upd_self _ _ _ h1, upd_self _ _ _ h2]⟩
theorem rep3 {E : Env} {i1 : Nat} {v1 : Value} {i2 : Nat} {v2 : Value} {i3 : Nat} {v3 : Value} (h1 : E i1 = v1) (h2 : E i2 = v2) (h3 : E i3 = v3) : ∃ e0, E = upd (upd (upd e0 i1 v1) i2 v2) i3 v3 := ⟨E, by rw [upd_self _ _ _ h1, upd_self _ _ _ h2, upd_self _ _ _ h3]⟩
theorem rep4 {E : Env} {i1 : Nat} {v1 : Value} {i2 : Nat} {v2 : Value} {i3 : Nat} {v3 : Value} {i4 : Nat} {v4 : Value} (h1 : E i1 = v1) (h2 : E i2 = v2) (h3 : E i3 = v3) (h4 : E i4 = v4) : ∃ e0, E = upd (upd (upd (upd e0 i1 v1) i2 v2) i3 v3) i4 v4 := ⟨E, by rw [upd_self _ _ _ h1, upd_self _ _ _ h2, upd_self _ _ _ h3, upd_self _ _ _ h4]⟩
theorem rep5 {E : Env} {i1 : Nat} {v1 : Value} {i2 : Nat} {v2 : Value} {i3 : Nat} {v3 : Value} {i4 : Nat} {v4 : Value} {i5 : Nat} {v5 : Value} (h1 : E i1 = v1) (h2 : E i2 = v2) (h3 : E i3 = v3) (h4 : E i4 = v4) (h5 : E i5 = v5) : ∃ e0, E = upd (upd (upd (upd (upd e0 i1 v1) i2 v2) i3 v3) i4 v4) i5 v5 := ⟨E, by rw [upd_self _ _ _ h1, upd_self _ _ _ h2, upd_self _ _ _ h3, upd_self _ _ _ h4, upd_self _ _ _ h5]⟩
theorem rep6 {E : Env} {i1 : Nat} {v1 : Value} {i2 : Nat} {v2 : Value} {i3 : Nat} {v3 : Value} {i4 : Nat} {v4 : Value} {i5 : Nat} {v5 : Value} {i6 : Nat} {v6 : Value} (h1 : E i1 = v1) (h2 : E i2 = v2) (h3 : E i3 = v3) (h4 : E i4 = v4) (h5 : E i5 = v5) (h6 : E i6 = v6) : ∃ e0, E = upd (upd (upd (upd (upd (upd e0 i1 v1) i2 v2) i3 v3) i4 v4) i5 v5) i6 v6 := ⟨E, by rw [upd_self _ _ _ h1, upd_self _ _ _ h2, upd_self _ _ _ h3, upd_self _ _ _ h4, upd_self _ _ _ h5, upd_self _ _ _ h6]⟩
theorem rep7 {E : Env} {i1 : Nat} {v1 : Value} {i2 : Nat} {v2 : Value} {i3 : Nat} {v3 : Value} {i4 : Nat} {v4 : Value} {i5 : Nat} {v5 : Value} {i6 : Nat} {v6 : Value} {i7 : Nat} {v7 : Value} (h1 : E i1 = v1) (h2 : E i2 = v2) (h3 : E i3 = v3) (h4 : E i4 = v4) (h5 : E i5 = v5) (h6 : E i6 = v6) (h7 : E i7 = v7) : ∃ e0, E = upd (upd (upd (upd (upd (upd (upd e0 i1 v1) i2 v2) i3 v3) i4 v4) i5 v5) i6 v6) i7 v7 := ⟨E, by rw [upd_self _ _ _ h1, upd_self _ _ _ h2, upd_self _ _ _ h3, upd_self _ _ _ h4, upd_self _ _ _ h5, upd_self _ _ _ h6, upd_self _ _ _ h7]⟩
theorem rep8 {E : Env} {i1 : Nat} {v1 : Value} {i2 : Nat} {v2 : Value} {i3 : Nat} {v3 : Value} {i4 : Nat} {v4 : Value} {i5 : Nat} {v5 : Value} {i6 : Nat} {v6 : Value} {i7 : Nat} {v7 : Value} {i8 : Nat} {v8 : Value} (h1 : E i1 = v1) (h2 : E i2 = v2) (h3 : E i3 = v3) (h4 : E i4 = v4) (h5 : E i5 = v5) (h6 : E i6 = v6) (h7 : E i7 = v7) (h8 : E i8 = v8) : ∃ e0, E = upd (upd (upd (upd (upd (upd (upd (upd e0 i1 v1) i2 v2) i3 v3) i4 v4) i5 v5) i6 v6) i7 v7) i8 v8 := ⟨E, by rw [upd_self _ _ _ h1, upd_self _ _ _ h2, upd_self _ _ _ h3, upd_self _ _ _ h4, upd_self _ _ _ h5, upd_self _ _ _ h6, upd_self _ _ _ h7, upd_self _ _ _ h8]⟩
theorem rep9 {E : Env} {i1 : Nat} {v1 : Value} {i2 : Nat} {v2 : Value} {i3 : Nat} {v3 : Value} {i4 : Nat} {v4 : Value} {i5 : Nat} {v5 : Value} {i6 : Nat} {v6 : Value} {i7 : Nat} {v7 : Value} {i8 : Nat} {v8 : Value} {i9 : Nat} {v9 : Value} (h1 : E i1 = v1) (h2 : E i2 = v2) (h3 : E i3 = v3) (h4 : E i4 = v4) (h5 : E i5 = v5) (h6 : E i6 = v6) (h7 : E i7 = v7) (h8 : E i8 = v8) (h9 : E i9 = v9) : ∃ e0, E = upd (upd (upd (upd (upd (upd (upd (upd (upd e0 i1 v1) i2 v2) i3 v3) i4 v4) i5 v5) i6 v6) i7 v7) i8 v8) i9 v9 := ⟨E, by rw [upd_self _ _ _ h1, upd_self _ _ _ h2, upd_self _ _ _ h3, upd_self _ _ _ h4, upd_self _ _ _ h5, upd_self _ _ _ h6, upd_self _ _ _ h7, upd_self _ _ _ h8, upd_self _ _ _ h9]⟩
theorem rep10 {E : Env} {i1 : Nat} {v1 : Value} {i2 : Nat} {v2 : Value} {i3 : Nat} {v3 : Value} {i4 : Nat} {v4 : Value} {i5 : Nat} {v5 : Value} {i6 : Nat} {v6 : Value} {i7 : Nat} {v7 : Value} {i8 : Nat} {v8 : Value} {i9 : Nat} {v9 : Value} {i10 : Nat} {v10 : Value} (h1 : E i1 = v1) (h2 : E i2 = v2) (h3 : E i3 = v3) (h4 : E i4 = v4) (h5 : E i5 = v5) (h6 : E i6 = v6) (h7 : E i7 = v7) (h8 : E i8 = v8) (h9 : E i9 = v9) (h10 : E i10 = v10) : ∃ e0, E = upd (upd (upd (upd (upd (upd (upd (upd (upd (upd e0 i1 v1) i2 v2) i3 v3) i4 v4) i5 v5) i6 v6) i7 v7) i8 v8) i9 v9) i10 v10 := ⟨E, by rw [upd_self _ _ _ h1, upd_self _ _ _ h2, upd_self _ _ _ h3, upd_self _ _ _ h4, upd_self _ _ _ h5, upd_self _ _ _ h6, upd_self _ _ _ h7, upd_self _ _ _ h8, upd_self _ _ _ h9, upd_self _ _ _ h10]⟩
theorem rep11 {E : Env} {i1 : Nat} {v1 : Value} {i2 : Nat} {v2 : Value} {i3 : Nat} {v3 : Value} {i4 : Nat} {v4 : Value} {i5 : Nat} {v5 : Value} {i6 : Nat} {v6 : Value} {i7 : Nat} {v7 : Value} {i8 : Nat} {v8 : Value} {i9 : Nat} {v9 : Value} {i10 : Nat} {v10 : Value} {i11 : Nat} {v11 : Value} (h1 : E i1 = v1) (h2 : E i2 = v2) (h3 : E i3 = v3) (h4 : E i4 = v4) (h5 : E i5 = v5) (h6 : E i6 = v6) (h7 : E i7 = v7) (h8 : E i8 = v8) (h9 : E i9 = v9) (h10 : E i10 = v10) (h11 : E i11 = v11) : ∃ e0, E = upd (upd (upd (upd (upd (upd (upd (upd (upd (upd (upd e0 i1 v1) i2 v2) i3 v3) i4 v4) i5 v5) i6 v6) i7 v7) i8 v8) i9 v9) i10 v10) i11 v11 := ⟨E, by rw [upd_self _ _ _ h1, upd_self _ _ _ h2, upd_self _ _ _ h3, upd_self _ _ _ h4, upd_self _ _ _ h5, upd_self _ _ _ h6, upd_self _ _ _ h7, upd_self _ _ _ h8, upd_self _ _ _ h9, upd_self _ _ _ h10, upd_self _ _ _ h11]⟩
theorem rep12 {E : Env} {i1 : Nat} {v1 : Value} {i2 : Nat} {v2 : Value} {i3 : Nat} {v3 : Value} {i4 : Nat} {v4 : Value} {i5 : Nat} {v5 : Value} {i6 : Nat} {v6 : Value} {i7 : Nat} {v7 : Value} {i8 : Nat} {v8 : Value} {i9 : Nat} {v9 : Value} {i10 : Nat} {v10 : Value} {i11 : Nat} {v11 : Value} {i12 : Nat} {v12 : Value} (h1 : E i1 = v1) (h2 : E i2 = v2) (h3 : E i3 = v3) (h4 : E i4 = v4) (h5 : E i5 = v5) (h6 : E i6 = v6) (h7 : E i7 = v7) (h8 : E i8 = v8) (h9 : E i9 = v9) (h10 : E i10 = v10) (h11 : E i11 = v11) (h12 : E i12 = v12) : ∃ e0, E = upd (upd (upd (upd (upd (upd (upd (upd (upd (upd (upd (upd e0 i1 v1) i2 v2) i3 v3) i4 v4) i5 v5) i6 v6) i7 v7) i8 v8) i9 v9) i10 v10) i11 v11) i12 v12 := ⟨E, by rw [upd_self _ _ _ h1, upd_self _ _ _ h2, upd_self _ _ _ h3, upd_self _ _ _ h4, upd_self _ _ _ h5, upd_self _ _ _ h6, upd_self _ _ _ h7, upd_self _ _ _ h8, upd_self _ _ _ h9, upd_self _ _ _ h10, upd_self _ _ _ h11, upd_self _ _ _ h12]⟩

structure Rep (N : Nat) (a : Act) (e : Env) : Prop where
  defers : a.defers = []
  size : a.tmps.size = N
  get : ∀ t, a.tmps.getD t undef = e t

theorem Rep.put {N : Nat} {a : Act} {e : Env} (h : Rep N a e) {d : Nat} (hd : d < N) (v : Value) : Rep N (a.put (some d) v) (upd e d v) := by
  refine ⟨h.defers, by simp [Act.put, h.size], fun t => ?_⟩
  have hg := h.get t
  have hs := h.size
  simp only [Act.put, Array.getD_eq_getD_getElem?, Array.getElem?_setIfInBounds, upd] at *
  by_cases e1 : d = t
  · subst e1
    rw [if_pos rfl, if_pos (by omega), Nat.beq_refl, cond_true]
    rfl
  · have : Nat.beq t d = false := by
      cases hb : Nat.beq t d with
      | true => exact absurd (Nat.eq_of_beq_eq_true hb).symm e1
      | false => rfl
    rw [if_neg e1, this, cond_false]
    exact hg

theorem Rep.eval {N : Nat} {a : Act} {e : Env} (h : Rep N a e) : a.eval = ev e := by
  funext x
  cases x with
  | tmp t => exact h.get t
  | const v => rfl
  | global g => rfl
  | func f => rfl

theorem Rep.slot {N : Nat} {a : Act} {e : Env} (h : Rep N a e) {t : Nat} (ht : t < N) : a.tmps[t]? = some (e t) := by
  have := h.get t
  have hs := h.size
  rw [Array.getD_eq_getD_getElem?, Array.getElem?_eq_getElem (by omega)] at this
  rw [Array.getElem?_eq_getElem (by omega)]
  exact congrArg some this

/-! ### Code -/
abbrev Post := Exit → Env → World → Prop
def lift (N : Nat) (Q : Post) : Exit → Act → World → Prop := fun x a w => ∃ e, Rep N a e ∧ Q x e w
def CW (P : Program) (N : Nat) (c : Code) (Q : Post) (e : Env) (w : World) : Prop := ∀ a, Rep N a e → c.wp P (lift N Q) a w

section code
variable {P : Program} {N : Nat} {Q : Post} {e : Env} {w : World}
set_option linter.unusedVariables false

/-- What stands behind, then all other ways out. -/
def thn (K : Env → World → Prop) (Q : Post) : Post
  | .normal, e, w => K e w
  | x, e, w => Q x e w
def blk (id : Nat) (Q : Post) : Post
  | .exit id', e, w => if id' = id then Q .normal e w else Q (.exit id') e w
  | x, e, w => Q x e w

theorem thn_ret {K : Env → World → Prop} (h : Q .ret e w) : thn K Q .ret e w := h
theorem thn_exit {K : Env → World → Prop} {id : Nat} (h : Q (.exit id) e w) : thn K Q (.exit id) e w := h
theorem thn_norm {K : Env → World → Prop} (h : K e w) : thn K Q .normal e w := h
theorem blk_ret {id : Nat} (h : Q .ret e w) : blk id Q .ret e w := h
theorem blk_norm {id : Nat} (h : Q .normal e w) : blk id Q .normal e w := h
theorem blk_here {id : Nat} (h : Q .normal e w) : blk id Q (.exit id) e w := by show (if id = id then _ else _); rw [if_pos rfl]; exact h
theorem blk_past {id id' : Nat} (hne : Nat.beq id' id = false) (h : Q (.exit id') e w) : blk id Q (.exit id') e w := by
  show (if id' = id then _ else _)
  rw [if_neg (fun he => by rw [he, Nat.beq_refl] at hne; cases hne)]; exact h
theorem CW.seq {x y : Code} (h : ∀ K : Env → World → Prop, (∀ e w, CW P N y Q e w → K e w) → CW P N x (thn K Q) e w) : CW P N (.seq x y) Q e w := by
  intro a ha
  refine wp_seq ?_
  refine Code.wp_mono ?_ (h (CW P N y Q) (fun _ _ h => h) a ha)
  rintro x a' w' ⟨e', hr, hq⟩
  cases x with
  | normal => exact hq a' hr
  | exit id => exact ⟨e', hr, hq⟩
  | goto l => exact ⟨e', hr, hq⟩
  | ret => exact ⟨e', hr, hq⟩
  | panic ch => exact ⟨e', hr, hq⟩
  | outgrown => exact ⟨e', hr, hq⟩

theorem CW.block {id : Nat} {c : Code} (h : CW P N c (blk id Q) e w) : CW P N (.block id c) Q e w := by
  intro a ha
  refine wp_block ?_
  refine Code.wp_mono ?_ (h a ha)
  rintro x a' w' ⟨e', hr, hq⟩
  cases x with
  | exit id' =>
    show if id' = id then _ else _
    unfold blk at hq
    split
    · rename_i h1; simp only [h1, if_true] at hq; exact ⟨e', hr, hq⟩
    · rename_i h1; simp only [h1, if_false] at hq; exact ⟨e', hr, hq⟩
  | normal => exact ⟨e', hr, hq⟩
  | goto l => exact ⟨e', hr, hq⟩
  | ret => exact ⟨e', hr, hq⟩
  | panic ch => exact ⟨e', hr, hq⟩
  | outgrown => exact ⟨e', hr, hq⟩

theorem CW.cond {c : Operand} {x y : Code} {b : Bool} (hc : ev e c = .bool b) (ht : b = true → CW P N x Q e w) (hf : b = false → CW P N y Q e w) : CW P N (.cond c x y) Q e w := by
  intro a ha
  refine wp_cond_split (t := b) (by rw [ha.eval]; exact hc) (fun h => ht h a ha) (fun h => hf h a ha)

/-- A test on a proposition. -/
theorem CW.condP {c : Operand} {x y : Code} {p : Prop} [Decidable p] (hc : ev e c = .bool (decide p)) (ht : p → CW P N x Q e w) (hf : ¬ p → CW P N y Q e w) : CW P N (.cond c x y) Q e w :=
  CW.cond hc (fun h => ht (of_decide_eq_true h)) (fun h => hf (of_decide_eq_false h))
theorem CW.condN {c : Operand} {x y : Code} {p : Prop} [Decidable p] (hc : ev e c = .bool (!decide p)) (ht : ¬ p → CW P N x Q e w) (hf : p → CW P N y Q e w) : CW P N (.cond c x y) Q e w :=
  CW.cond hc (fun h => ht (by simpa using h)) (fun h => hf (by simpa using h))
theorem CW.condT {c : Operand} {x y : Code} (hc : ev e c = .bool true) (ht : CW P N x Q e w) : CW P N (.cond c x y) Q e w :=
  CW.cond hc (fun _ => ht) (fun h => by cases h)
theorem CW.condF {c : Operand} {x y : Code} (hc : ev e c = .bool false) (hf : CW P N y Q e w) : CW P N (.cond c x y) Q e w :=
  CW.cond hc (fun h => by cases h) (fun _ => hf)

theorem CW.skip (h : Q .normal e w) : CW P N .skip Q e w := fun _ ha => wp_skip ⟨e, ha, h⟩
theorem CW.label {l : Nat} (h : Q .normal e w) : CW P N (.label l) Q e w := fun _ ha => wp_label ⟨e, ha, h⟩
theorem CW.exit {id : Nat} (h : Q (.exit id) e w) : CW P N (.exit id) Q e w := fun _ ha => wp_exit ⟨e, ha, h⟩
theorem CW.ret (h : Q .ret e w) : CW P N .ret Q e w := fun _ ha => wp_ret ⟨e, ha, h⟩

/-- A loop: a relation that bears a number, which each round lowers. -/
theorem CW.loop {c : Code} (J : Nat → Env → World → Prop) (n0 : Nat) (h0 : J n0 e w)
    (round : ∀ n e w, J n e w → ∀ K : Env → World → Prop, (∀ m e w, m < n → J m e w → K e w) → CW P N c (thn K Q) e w) : CW P N (.loop c) Q e w := by
  intro a ha
  refine wp_loop_ghost (fun n a w => ∃ e, Rep N a e ∧ J n e w) n0 ⟨e, ha, h0⟩ ?_
  rintro n a w ⟨e, hr, hJ⟩
  refine Code.wp_mono ?_ (round n e w hJ (fun e w => ∃ m, m < n ∧ J m e w) (fun m _ _ hm h => ⟨m, hm, h⟩) a hr)
  rintro x a' w' ⟨e', hr', hq⟩
  cases x with
  | normal => obtain ⟨m, hm, hj⟩ := hq; exact ⟨m, hm, e', hr', hj⟩
  | exit id => exact ⟨e', hr', hq⟩
  | goto l => exact ⟨e', hr', hq⟩
  | ret => exact ⟨e', hr', hq⟩
  | panic ch => exact ⟨e', hr', hq⟩
  | outgrown => exact ⟨e', hr', hq⟩

theorem CW.mono {c : Code} {Q' : Post} (hq : ∀ x e w, Q x e w → Q' x e w) (h : CW P N c Q e w) : CW P N c Q' e w :=
  fun a ha => Code.wp_mono (fun x a w ⟨e, hr, h⟩ => ⟨e, hr, hq x e w h⟩) (h a ha)

/-! ### Single operations -/
/-- What the operation leaves: its value and the world behind it. -/
def upon (P : Program) (K : Value → World → Prop) : Result Next → Prop
  | .ok (.value v) w => K v w
  | .ok .skip w => K undef w
  | .ok (.enter f args) w => Calls P f args w fun x w' => ∃ v, x = .returned v ∧ K v w'
  | _ => False
def OpW (P : Program) (o : Op) (ty : TypeId) (e : Env) (w : World) (K : Value → World → Prop) : Prop :=
  upon P K ((execOp (ev e) ⟨none, o, ty, "", #[], none⟩).run P w)

theorem OpW.mono {o : Op} {ty : TypeId} {K K' : Value → World → Prop} (hk : ∀ v w, K v w → K' v w) (h : OpW P o ty e w K) : OpW P o ty e w K' := by
  unfold OpW at *
  generalize (execOp (ev e) ⟨none, o, ty, "", #[], none⟩).run P w = r at *
  cases r with
  | ok n w' =>
    cases n <;> simp only [upon] at h ⊢ <;> first
      | exact hk _ _ h
      | exact h.mono fun x w'' ⟨v, hx, h2⟩ => ⟨v, hx, hk _ _ h2⟩
  | halt x w' => simp only [upon] at h

theorem OpW.toWp {o : Oper} {a : Act} {K : Act → World → Prop} {Q' : Exit → Act → World → Prop} (he : a.eval = ev e) (h : OpW P o.op o.type e w fun v w' => K (a.put o.dst v) w') : o.wp P a w K Q' := by
  unfold OpW at h
  unfold Oper.wp
  rw [he]
  have e1 : execOp (ev e) o = execOp (ev e) ⟨none, o.op, o.type, "", #[], none⟩ := rfl
  rw [e1]
  generalize (execOp (ev e) ⟨none, o.op, o.type, "", #[], none⟩).run P w = r at *
  cases r with
  | ok n w' =>
    cases n <;> simp only [upon] at h <;> simp only [Oper.upon]
    case value v => exact h
    case skip => exact h
    case enter f args => exact h.mono fun _ _ ⟨_, hx, h2⟩ => by subst hx; exact h2
  | halt x w' => simp only [upon] at h

def WL (P : Program) (N : Nat) (ops : Array Oper) (Q : Post) (l : List Oper) (e : Env) (w : World) : Prop := ∀ a, Rep N a e → wpList P ops (lift N Q) l a w

theorem CW.region {id : Nat} {l : List Oper} (h : WL P N l.toArray Q l e w) : CW P N (.region id l.toArray false) Q e w :=
  fun a ha => wp_region_lit (h a ha)

variable {ops : Array Oper} {rest : List Oper}
theorem WL.nil (h : Q .normal e w) : WL P N ops Q [] e w := fun _ ha => wpList_nil ⟨e, ha, h⟩

theorem WL.step {d : Nat} {op : Op} {ty : TypeId} {pos : String} {after : Array Edge} (hd : Nat.blt d N = true)
    (h : OpW P op ty e w fun v w' => WL P N ops Q rest (upd e d v) w') : WL P N ops Q (⟨some d, op, ty, pos, after, none⟩ :: rest) e w := by
  intro a ha
  refine wpList_plain rfl fun K hK => ?_
  refine OpW.toWp ha.eval (h.mono fun v w' hl => hK _ _ (hl _ (ha.put (blt_lt hd) v)))

theorem WL.step0 {op : Op} {ty : TypeId} {pos : String} {after : Array Edge}
    (h : OpW P op ty e w fun _ w' => WL P N ops Q rest e w') : WL P N ops Q (⟨none, op, ty, pos, after, none⟩ :: rest) e w := by
  intro a ha
  refine wpList_plain rfl fun K hK => ?_
  exact OpW.toWp (o := ⟨none, op, ty, pos, after, none⟩) ha.eval (h.mono fun v w' hl => hK _ _ (hl _ ha))

theorem wanted_of {o : Oper} {a : Act} {j dj : Nat} {want b : Bool} (hr : Rep N a e) (hg : o.guard = some (j, want)) (hj : (ops[j]?).bind (·.dst) = some dj) (hn : Nat.blt dj N = true) (hb : e dj = .bool b) :
    Region.wanted o (yielded ops a.tmps) = (b == want) := by
  have := hr.slot (blt_lt hn)
  simp [Region.wanted, hg, yielded, hj, this, hb]

theorem WL.gstep {d j dj : Nat} {want : Bool} {op : Op} {ty : TypeId} {pos : String} {after : Array Edge} (hj : (ops[j]?).bind (·.dst) = some dj) (hn : Nat.blt dj N = true) (hd : Nat.blt d N = true)
    (hb : e dj = .bool want)
    (h : OpW P op ty e w fun v w' => WL P N ops Q rest (upd e d v) w') : WL P N ops Q (⟨some d, op, ty, pos, after, some (j, want)⟩ :: rest) e w := by
  intro a ha
  refine wpList_step fun K hK => ?_
  rw [if_pos (by rw [wanted_of (N := N) (e := e) ha rfl hj hn hb]; simp)]
  refine OpW.toWp ha.eval (h.mono fun v w' hl => hK _ _ (hl _ (ha.put (blt_lt hd) v)))

theorem WL.gskip {d j dj : Nat} {want : Bool} {op : Op} {ty : TypeId} {pos : String} {after : Array Edge} (hj : (ops[j]?).bind (·.dst) = some dj) (hn : Nat.blt dj N = true) (hd : Nat.blt d N = true)
    (hb : e dj = .bool (!want))
    (h : WL P N ops Q rest (upd e d undef) w) : WL P N ops Q (⟨some d, op, ty, pos, after, some (j, want)⟩ :: rest) e w := by
  intro a ha
  refine wpList_step fun K hK => ?_
  rw [if_neg (by rw [wanted_of (N := N) (e := e) ha rfl hj hn hb]; cases want <;> simp)]
  exact hK _ _ (h _ (ha.put (blt_lt hd) undef))

/-! ### Functions -/
/-- A call that returns: the value, and the world behind it. -/
def Ret (P : Program) (f : FuncId) (args : Array Value) (w : World) (R : Value → World → Prop) : Prop :=
  Calls P f args w fun x w' => ∃ v, x = .returned v ∧ R v w'

theorem Ret.mono {f : FuncId} {args : Array Value} {R R' : Value → World → Prop} (h : Ret P f args w R) (hr : ∀ v w', R v w' → R' v w') : Ret P f args w R' :=
  Calls.mono h fun _ _ ⟨v, hx, h2⟩ => ⟨v, hx, hr _ _ h2⟩

def outOf (P : Program) (fn : Func) (R : Value → World → Prop) : Post
  | .normal, e, w | .ret, e, w => ∀ tmps : Array Value, (∀ t, tmps.getD t undef = e t) → ∃ v, (results fn tmps).run P w = .ok v w ∧ R v w
  | _, _, _ => False

def envOf : List Value → Env
  | [] => fun _ => undef
  | l => fun t => l.getD t undef

theorem Ret.enter {f : FuncId} {fn : Func} {c : Code} {args : List Value} {R : Value → World → Prop} {N : Nat} (hf : P.funcs[f]? = some fn) (hb : fn.body = some c) (hn : fn.ntmps = N) (hN : Nat.ble args.length N = true)
    (h : CW P N c (outOf P fn R) (fun t => args.getD t undef) w) : Ret P f args.toArray w R := by
  refine calls_of_wp hf hb ?_
  subst hn
  have hle := Nat.le_of_ble_eq_true hN
  refine Code.wp_mono ?_ (h ⟨args.toArray ++ Array.replicate (fn.ntmps - args.toArray.size) undef, []⟩ ⟨rfl, by simp; omega, fun t => ?_⟩)
  · rintro x a w' ⟨e', hr, hq⟩
    cases x with
    | normal => obtain ⟨v, h1, h2⟩ := hq a.tmps hr.get; exact ⟨hr.defers, v, h1, v, rfl, h2⟩
    | ret => obtain ⟨v, h1, h2⟩ := hq a.tmps hr.get; exact ⟨hr.defers, v, h1, v, rfl, h2⟩
    | exit id => exact hq.elim
    | goto l => exact hq.elim
    | panic ch => exact hq.elim
    | outgrown => exact hq.elim
  · simp only [Array.getD_eq_getD_getElem?, List.getD_eq_getElem?_getD, Array.getElem?_append]
    split
    · simp
    · rename_i h1
      rw [List.getElem?_eq_none (by simpa using h1), Array.getElem?_replicate]
      split <;> rfl

theorem out1 {fn : Func} {R : Value → World → Prop} {t : Nat} {v : Value} (hr : fn.results = #[.tmp t]) (hv : e t = v) (h : R v w) {x : Exit} (hx : x = .normal ∨ x = .ret) : outOf P fn R x e w := by
  rcases hx with rfl | rfl <;> exact fun tmps ht => ⟨v, by simp [results, hr]; rw [← hv, ← ht]; simp, h⟩
theorem out2 {fn : Func} {R : Value → World → Prop} {t u : Nat} {v1 v2 : Value} (hr : fn.results = #[.tmp t, .tmp u]) (hv : e t = v1) (hu : e u = v2) (h : R (.tuple #[v1, v2]) w) {x : Exit} (hx : x = .normal ∨ x = .ret) : outOf P fn R x e w := by
  rcases hx with rfl | rfl <;> exact fun tmps ht => ⟨.tuple #[v1, v2], by simp [results, hr]; rw [← hv, ← hu, ← ht, ← ht]; simp, h⟩
theorem out3 {fn : Func} {R : Value → World → Prop} {t u s : Nat} {v1 v2 v3 : Value} (hr : fn.results = #[.tmp t, .tmp u, .tmp s]) (hv : e t = v1) (hu : e u = v2) (hs : e s = v3) (h : R (.tuple #[v1, v2, v3]) w) {x : Exit} (hx : x = .normal ∨ x = .ret) : outOf P fn R x e w := by
  rcases hx with rfl | rfl <;> exact fun tmps ht => ⟨.tuple #[v1, v2, v3], by simp [results, hr]; rw [← hv, ← hu, ← hs, ← ht, ← ht, ← ht]; simp, h⟩
theorem out0 {fn : Func} {R : Value → World → Prop} (hr : fn.results = #[]) (h : R (.tuple #[]) w) {x : Exit} (hx : x = .normal ∨ x = .ret) : outOf P fn R x e w := by
  rcases hx with rfl | rfl <;> exact fun tmps ht => ⟨.tuple #[], by simp [results, hr], h⟩
end code
end B
end Go.Proofs.YtbcmmamipjbfpaaDoor
