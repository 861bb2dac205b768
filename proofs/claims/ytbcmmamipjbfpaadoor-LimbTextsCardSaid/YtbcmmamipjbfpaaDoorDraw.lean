/- Regions whose order is drawn: those that only read and call (one walk), and those whose operations make memory. No conditions. -/
import Derived.Test.YtbcmmamipjbfpaaDoorMem4
import Derived.Deep.Quiet
namespace Go.Proofs.YtbcmmamipjbfpaaDoor
namespace B
set_option linter.unusedVariables false
set_option linter.unusedSimpArgs false

/-- Operations that hand back a value at once. -/
def valOp : Op → Bool
  | .move _ | .assign _ | .pick .. | .load .. | .binOp .. | .unOp .. | .convert .. | .slice .. | .fieldAddr .. | .field .. | .indexAddr .. | .index .. | .extract .. | .nilCheck _ => true
  | .call ⟨.builtin .len, _, _⟩ | .call ⟨.builtin .cap, _, _⟩ | .call ⟨.builtin .min, _, _⟩ | .call ⟨.builtin .max, _, _⟩ => true
  | _ => false

theorem val_of_sem {P : Program} {s : Sem Value} {w w' : World} {n : Next} (h : (do pure (Next.value (← s)) : Sem Next).run P w = .ok n w') : ∃ v, n = .value v := by
  rw [Sem.run_bind] at h
  cases hs : s.run P w with
  | ok a w1 => rw [hs] at h; simp [Result.andThen, Sem.run_pure] at h; exact ⟨a, h.1.symm⟩
  | halt x w1 => rw [hs] at h; simp [Result.andThen] at h

theorem not_enter {P : Program} {ρ : Operand → Value} {op : Op} {ty : TypeId} {w w' : World} {n : Next} (hv : valOp op = true) (h : (execOp ρ ⟨none, op, ty, "", #[], none⟩).run P w = .ok n w') : ∃ v, n = .value v := by
  cases op with
  | move x => simp [execOp, Sem.run_pure] at h; exact ⟨_, h.1.symm⟩
  | assign x => simp [execOp, Sem.run_pure] at h; exact ⟨_, h.1.symm⟩
  | pick c a b => exact val_of_sem (s := do pure (if ← asBool (ρ c) then ρ a else ρ b)) (by simpa [execOp] using h)
  | load t a => exact val_of_sem h
  | binOp o t x y t' => exact val_of_sem h
  | unOp o t x => exact val_of_sem h
  | convert s d x => exact val_of_sem h
  | slice t x l h' m => exact val_of_sem h
  | fieldAddr s x f => exact val_of_sem h
  | field s x f => exact val_of_sem h
  | indexAddr t x i => exact val_of_sem h
  | index t x i => exact val_of_sem h
  | extract x i => exact val_of_sem h
  | nilCheck x =>
    unfold execOp at h
    simp only at h
    split at h
    · simp [runtimePanic, Sem.run_bind, program, Sem.run, Result.andThen, goPanic] at h
    · simp [runtimePanic, Sem.run_bind, program, Sem.run, Result.andThen, goPanic] at h
    · simp [runtimePanic, Sem.run_bind, program, Sem.run, Result.andThen, goPanic] at h
    · split at h
      · simp [runtimePanic, Sem.run_bind, program, Sem.run, Result.andThen, goPanic] at h
      · rw [Sem.run_bind] at h
        simp only [program, Sem.run, Result.andThen] at h
        rw [Sem.run_bind] at h
        generalize (nilAhead _ _ _ _).run P w = r at h
        cases r with
        | halt x w1 => simp [Result.andThen] at h
        | ok b w1 =>
          simp only [Result.andThen, Sem.run_bind] at h
          split at h
          · simp [unsupported, Sem.run] at h
          · simp [Sem.run_pure] at h; exact ⟨_, h.1.symm⟩
      · simp [Sem.run_pure] at h; exact ⟨_, h.1.symm⟩
    · simp [Sem.run_pure] at h; exact ⟨_, h.1.symm⟩
  | call c =>
    obtain ⟨cal, args, ats⟩ := c
    cases cal with
    | builtin b =>
      cases b <;> first
        | exact Bool.noConfusion hv
        | (simp only [execOp, resolve, invoke, pure_bind, Go.builtin] at h; exact val_of_sem h)
    | value f => exact Bool.noConfusion hv
    | invoke r m => exact Bool.noConfusion hv
  | _ => exact Bool.noConfusion hv

section
variable {P : Program} {N : Nat} {Q : Post} {e : Env} {w w0 : World} {ops : Array Oper} {rest : List Oper} {ty : TypeId}

def QL (P : Program) (N : Nat) (ops : Array Oper) (w0 : World) (Q : Post) (l : List Oper) (e : Env) : Prop :=
  ∀ a, Rep N a e → wpQuiet P ops (fun w' => Grow w0 w') (fun a' => ∀ w', Grow w0 w' → lift N Q .normal a' w') l a

/-- One walk in the text's order serves every order: nothing is written, calls hand back one value and only make memory. -/
theorem CW.quiet {id : Nat} {l : List Oper} (hm : P.follows .mixedOrders = true) (hB : Region.lexB .any l.toArray = true) (h : QL P N l.toArray w Q l e) : CW P N (.region id l.toArray true) Q e w :=
  fun a ha => wp_region_quiet (C := fun w' => Grow w w') hm hB (Chg.drew (Chg.refl _ _)) (by simpa using h a ha)

theorem QL.nil (h : ∀ w', Grow w0 w' → Q .normal e w') : QL P N ops w0 Q [] e := fun a ha => wpQuiet_nil fun w' hw => ⟨e, ha, h w' hw⟩

theorem quiet_val {op : Op} {v : Value} {o : Oper} (ho : o.op = op) (hty : o.type = ty) {a : Act} (he : a.eval = ev e) (hv : valOp op = true) (h : ∀ w, Grow w0 w → OpW P op ty e w fun v' w' => v' = v ∧ w' = w) : ∀ w, Grow w0 w → o.quietAt P a (fun w' => Grow w0 w') w v := by
  intro w hg
  have h1 := h w hg
  unfold OpW at h1
  unfold Oper.quietAt
  have e1 : execOp a.eval o = execOp (ev e) ⟨none, op, ty, "", #[], none⟩ := by rw [he]; subst ho; subst hty; rfl
  rw [e1]
  cases hr : (execOp (ev e) ⟨none, op, ty, "", #[], none⟩).run P w with
  | ok n w' =>
    obtain ⟨u, rfl⟩ := not_enter hv hr
    rw [hr] at h1
    simp only [upon] at h1
    exact ⟨h1.2, h1.1⟩
  | halt x w' => rw [hr] at h1; simp only [upon] at h1

theorem quiet_call {f : FuncId} {args : Array Operand} {ats : Array TypeId} {vs : List Value} {v : Value} {o : Oper} [hf : CallT P f] (ho : o.op = .call ⟨.value (.func f), args, ats⟩) {a : Act} (he : a.eval = ev e) (h : ∀ w, Grow w0 w → Ret P f vs.toArray w fun v' w' => v' = v ∧ Grow w w') (hv : args.toList.map (ev e) = vs) : ∀ w, Grow w0 w → o.quietAt P a (fun w' => Grow w0 w') w v := by
  intro w hg
  have hv' : args.map (ev e) = vs.toArray := by subst hv; cases args; simp
  have h1 := h w hg
  unfold Oper.quietAt
  have : (execOp a.eval o).run P w = .ok (.enter f vs.toArray) w := by
    rw [he]
    simp [execOp, ho, resolve, ev, Deferred.ofValue, invoke, hf.h, hv']
  rw [this]
  exact ⟨rfl, Calls.mono h1 fun x w'' ⟨v', hx, h2, h3⟩ => ⟨by rw [hx, h2], hg.then h3⟩⟩

theorem QL.step {d : Nat} {op : Op} {v : Value} {pos : String} {after : Array Edge} (hd : Nat.blt d N = true) (hv : valOp op = true)
    (h : ∀ w, Grow w0 w → OpW P op ty e w fun v' w' => v' = v ∧ w' = w) (hn : QL P N ops w0 Q rest (upd e d v)) : QL P N ops w0 Q (⟨some d, op, ty, pos, after, none⟩ :: rest) e := by
  intro a ha
  refine wpQuiet_step fun K hK => ?_
  rw [if_pos (c := Region.wanted _ (yielded ops a.tmps) = true) rfl]
  exact ⟨v, quiet_val rfl rfl ha.eval hv h, hK _ (hn _ (ha.put (blt_lt hd) v))⟩
theorem QL.gstep {d j dj : Nat} {want : Bool} {op : Op} {v : Value} {pos : String} {after : Array Edge} (hj : (ops[j]?).bind (·.dst) = some dj) (hn' : Nat.blt dj N = true) (hd : Nat.blt d N = true) (hb : e dj = .bool want) (hv : valOp op = true)
    (h : ∀ w, Grow w0 w → OpW P op ty e w fun v' w' => v' = v ∧ w' = w) (hn : QL P N ops w0 Q rest (upd e d v)) : QL P N ops w0 Q (⟨some d, op, ty, pos, after, some (j, want)⟩ :: rest) e := by
  intro a ha
  refine wpQuiet_step fun K hK => ?_
  rw [if_pos (by rw [wanted_of (N := N) (e := e) ha rfl hj hn' hb]; simp)]
  exact ⟨v, quiet_val rfl rfl ha.eval hv h, hK _ (hn _ (ha.put (blt_lt hd) v))⟩
theorem QL.gskip {d j dj : Nat} {want : Bool} {op : Op} {pos : String} {after : Array Edge} (hj : (ops[j]?).bind (·.dst) = some dj) (hn' : Nat.blt dj N = true) (hd : Nat.blt d N = true) (hb : e dj = .bool (!want))
    (hn : QL P N ops w0 Q rest (upd e d undef)) : QL P N ops w0 Q (⟨some d, op, ty, pos, after, some (j, want)⟩ :: rest) e := by
  intro a ha
  refine wpQuiet_step fun K hK => ?_
  rw [if_neg (by rw [wanted_of (N := N) (e := e) ha rfl hj hn' hb]; cases want <;> simp)]
  exact hK _ (hn _ (ha.put (blt_lt hd) undef))
theorem QL.call {d : Nat} {f : FuncId} {args : Array Operand} {ats : Array TypeId} {vs : List Value} {v : Value} {pos : String} {after : Array Edge} [hf : CallT P f] (hd : Nat.blt d N = true)
    (h : ∀ w, Grow w0 w → Ret P f vs.toArray w fun v' w' => v' = v ∧ Grow w w') (hv : args.toList.map (ev e) = vs) (hn : QL P N ops w0 Q rest (upd e d v)) : QL P N ops w0 Q (⟨some d, .call ⟨.value (.func f), args, ats⟩, ty, pos, after, none⟩ :: rest) e := by
  intro a ha
  refine wpQuiet_step fun K hK => ?_
  rw [if_pos (c := Region.wanted _ (yielded ops a.tmps) = true) rfl]
  exact ⟨v, quiet_call rfl ha.eval h hv, hK _ (hn _ (ha.put (blt_lt hd) v))⟩
theorem QL.gcall {d j dj : Nat} {want : Bool} {f : FuncId} {args : Array Operand} {ats : Array TypeId} {vs : List Value} {v : Value} {pos : String} {after : Array Edge} [hf : CallT P f] (hj : (ops[j]?).bind (·.dst) = some dj) (hn' : Nat.blt dj N = true) (hd : Nat.blt d N = true) (hb : e dj = .bool want)
    (h : ∀ w, Grow w0 w → Ret P f vs.toArray w fun v' w' => v' = v ∧ Grow w w') (hv : args.toList.map (ev e) = vs) (hn : QL P N ops w0 Q rest (upd e d v)) : QL P N ops w0 Q (⟨some d, .call ⟨.value (.func f), args, ats⟩, ty, pos, after, some (j, want)⟩ :: rest) e := by
  intro a ha
  refine wpQuiet_step fun K hK => ?_
  rw [if_pos (by rw [wanted_of (N := N) (e := e) ha rfl hj hn' hb]; simp)]
  exact ⟨v, quiet_call rfl ha.eval h hv, hK _ (hn _ (ha.put (blt_lt hd) v))⟩
end
end B
end Go.Proofs.YtbcmmamipjbfpaaDoor
