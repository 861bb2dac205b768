/- Regions whose order is drawn and whose last write (number s) stands behind all reads: up to it only blocks of S are written, behind it blocks of S1. No conditions. -/
import Derived.Test.YtbcmmamipjbfpaaDoorHeld
namespace Go.Proofs.YtbcmmamipjbfpaaDoor
namespace B
set_option linter.unusedVariables false
set_option linter.unusedSimpArgs false

section
variable {P : Program} {ops : Array Oper} {Q : Exit → Act → World → Prop} {S0 S1 : World → Prop} {s : Nat}
def bindsOn (ops : Array Oper) (s i : Nat) : Bool := match ops[s]? with
  | some o => o.after.any fun e => Region.binds .any e && Nat.beq e.on i
  | none => true
theorem beq_ne {i s : Nat} (h : Nat.beq i s = false) : i ≠ s := fun e => by rw [e, Nat.beq_refl] at h; cases h
theorem bindsOn_spec {i : Nat} (h : bindsOn ops s i = true) : ∀ os, ops[s]? = some os → ∃ e ∈ os.after, Region.binds .any e = true ∧ e.on = i := by
  intro os hos
  unfold bindsOn at h
  rw [hos] at h
  obtain ⟨e, he, hb⟩ := Array.any_eq_true'.1 h
  rw [Bool.and_eq_true] at hb
  exact ⟨e, he, hb.1, Nat.eq_of_beq_eq_true hb.2⟩
/-- Any order; S0 holds up to number s, S1 behind it. -/
def wpP (P : Program) (ops : Array Oper) (Q : Exit → Act → World → Prop) (S0 S1 : World → Prop) (s : Nat) : Nat → Array Bool → Act → World → Prop
  | 0, L, a, w => Region.ready .any ops L = [] ∧ Q .normal a w
  | n + 1, L, a, w => (Region.ready .any ops L = [] → Q .normal a w) ∧
    ∀ i ∈ Region.ready .any ops L, wpOp P ops Q i (fun a' w' => (i = s → S1 w' ∧ wpAnyH P .any ops Q S1 n (L.setIfInBounds i true) a' w') ∧ (i ≠ s → S0 w' ∧ wpP P ops Q S0 S1 s n (L.setIfInBounds i true) a' w')) a w
theorem wpP_any : ∀ (n : Nat) (L : Array Bool) (a : Act) (w : World), wpP P ops Q S0 S1 s n L a w → wpAny P .any ops Q n L a w
  | 0, _, _, _, h => h
  | n + 1, _, _, _, h => ⟨h.1, fun i hi => wpOp_mono (fun a' w' h' => by
      by_cases hs : i = s
      · exact wpAny_of_held n _ a' w' (h'.1 hs).2
      · exact wpP_any n _ a' w' (h'.2 hs).2) (h.2 i hi)⟩
theorem wpP_first {i : Nat} {oi : Oper} {v : Value} (hi : ops[i]? = some oi) (hsel : ∀ (j : Nat) (o : Oper) cs b, ops[j]? = some o → o.op ≠ .select cs b)
    (hQ : ∀ c a w, Q (.panic c) (a.put oi.dst v) w → Q (.panic c) a w) (his : i ≠ s) (h01 : ∀ w, S0 w → S1 w) :
    ∀ (n : Nat) (L : Array Bool) (a : Act) (w : World),
      (∀ j oj, ops[j]? = some oj → j ≠ i → L.getD j true = false → (∀ e ∈ oj.after, Region.binds .any e = true → e.on ≠ i) → oi.apart ops oj = true) →
      i ∈ Region.ready .any ops L → YieldsIf P ops (fun w => if bindsOn ops s i = true then S0 w else S1 w) oi v a → S0 w →
      wpP P ops Q S0 S1 s n (L.setIfInBounds i true) (a.put oi.dst v) w → wpP P ops Q S0 S1 s (n + 1) L a w := by
  have byS : ∀ {w}, S0 w → if bindsOn ops s i = true then S0 w else S1 w := fun {w} h => by
    split
    · exact h
    · exact h01 w h
  intro n
  induction n with
  | zero =>
    intro L a w _ hr hy hS H
    refine ⟨fun h => (by rw [h] at hr; cases hr), fun j hj => ?_⟩
    by_cases hji : j = i
    · subst hji; exact hy.wpOp hi (byS hS) ⟨fun h => absurd h his, fun _ => ⟨hS, H⟩⟩
    · have := ready_mono hj hji
      rw [H.1] at this
      cases this
  | succ n ih =>
    intro L a w hfree hr hy hS H
    refine ⟨fun h => (by rw [h] at hr; cases hr), fun j hj => ?_⟩
    by_cases hji : j = i
    · subst hji; exact hy.wpOp hi (byS hS) ⟨fun h => absurd h his, fun _ => ⟨hS, H⟩⟩
    · have h1 := H.2 j (ready_mono hj hji)
      obtain ⟨hjun, oj, hoj, hall⟩ := mem_ready.1 hj
      have hnot : ∀ e ∈ oj.after, Region.binds .any e = true → e.on ≠ i := fun e he hb heq => by
        have h1 := hall e he hb
        have h0 := (mem_ready.1 hr).1
        rw [heq] at h1
        rcases Nat.lt_or_ge i L.size with h' | h'
        · simp [h'] at h0 h1; rw [h0] at h1; cases h1
        · simp [Array.getElem?_eq_none h'] at h1
      have h2 := wpOp_putIf hoj (hfree j oj hoj hji hjun hnot) (fun cs b => hsel i oi cs b hi) (fun cs b => hsel j oj cs b hoj) hQ hy h1
      have hfree' : ∀ k ok, ops[k]? = some ok → k ≠ i → (L.setIfInBounds j true).getD k true = false →
          (∀ e ∈ ok.after, Region.binds .any e = true → e.on ≠ i) → oi.apart ops ok = true := fun k ok hk hki hun hno => by
        refine hfree k ok hk hki ?_ hno
        by_cases hjk : j = k
        · subst hjk; exact hjun
        · rw [getD_set_ne true hjk] at hun; exact hun
      refine wpOp_mono (fun a' w' h3 => ⟨fun h => ?_, fun hjs => ?_⟩) h2
      · subst h
        obtain ⟨h4, h5⟩ := h3.2.1 rfl
        have hb : ¬ bindsOn ops j i = true := fun hb => by
          obtain ⟨e, he, hb, hon⟩ := bindsOn_spec hb _ hoj
          exact hnot e he hb hon
        refine ⟨h4, ?_⟩
        have hy' := h3.1
        simp only [hb, if_false] at hy'
        refine wpAnyH_first hi hsel hQ n (L.setIfInBounds j true) a' w' hfree' (ready_mono hr (Ne.symm hji)) hy' h4 ?_
        rw [Array.setIfInBounds_comm _ _ hji]
        exact h5
      · obtain ⟨h4, h5⟩ := h3.2.2 hjs
        refine ⟨h4, ih (L.setIfInBounds j true) a' w' hfree' (ready_mono hr (Ne.symm hji)) h3.1 h4 ?_⟩
        rw [Array.setIfInBounds_comm _ _ hji]
        exact h5

def trOk2 (ops : Array Oper) (s : Nat) : Nat → Tr → Array Bool → Bool
  | k + 1, .take i t, d => Region.free .any ops d i && (Region.ready .any ops d).contains i && !(Nat.beq i s) && trOk2 ops s k t (d.setIfInBounds i true)
  | k + 1, .one i t, d => (match Region.ready .any ops d with | [j] => Nat.beq i j | _ => false) && (match Nat.beq i s with | true => trOk ops k t (d.setIfInBounds i true) | false => trOk2 ops s k t (d.setIfInBounds i true))
  | k + 1, .two i t j u, d => (match Region.ready .any ops d with | [i', j'] => Nat.beq i i' && Nat.beq j j' | _ => false) && !(Nat.beq i s) && !(Nat.beq j s) && trOk2 ops s k t (d.setIfInBounds i true) && trOk2 ops s k u (d.setIfInBounds j true)
  | _, _, _ => false
def AHeld2 (P : Program) (ops : Array Oper) (Q : Exit → Act → World → Prop) (C0 C1 : World → Prop) (s : Nat) : Tr → Act → World → Prop
  | .nil, a, w => False
  | .take i t, a, w => ∃ o v, ops[i]? = some o ∧ YieldsIf P ops (fun w => if bindsOn ops s i = true then C0 w else C1 w) o v a ∧ AHeld2 P ops Q C0 C1 s t (a.put o.dst v) w
  | .one i t, a, w => wpOp P ops Q i (fun a' w' => (i = s → C1 w' ∧ AHeld P ops Q C1 t a' w') ∧ (i ≠ s → C0 w' ∧ AHeld2 P ops Q C0 C1 s t a' w')) a w
  | .two i t j u, a, w => wpOp P ops Q i (fun a' w' => C0 w' ∧ AHeld2 P ops Q C0 C1 s t a' w') a w ∧ wpOp P ops Q j (fun a' w' => C0 w' ∧ AHeld2 P ops Q C0 C1 s u a' w') a w
theorem AHeld2.any (hs : Region.noSelect ops = true) (h01 : ∀ w, S0 w → S1 w) (hQ : ∀ c a w, ¬ Q (.panic c) a w) :
    ∀ (t : Tr) (k : Nat) (d : Array Bool) (a : Act) (w : World), trOk2 ops s k t d = true → S0 w → AHeld2 P ops Q S0 S1 s t a w → wpP P ops Q S0 S1 s k d a w := by
  intro t
  induction t with
  | nil => intro k d a w hk; cases k <;> exact Bool.noConfusion hk
  | take i t ih =>
    intro k d a w hk hC h
    cases k with
    | zero => exact Bool.noConfusion hk
    | succ k =>
      rw [trOk2, Bool.and_eq_true, Bool.and_eq_true, Bool.and_eq_true] at hk
      obtain ⟨⟨⟨h1, h2⟩, h4⟩, h5⟩ := hk
      obtain ⟨o, v, ho, hy, h⟩ := h
      exact wpP_first ho (Region.noSelect_spec hs) (fun c a w h => (hQ _ _ _ h).elim) (beq_ne (by simpa using h4)) h01 k d a w (Region.free_spec ho h1) (by simpa using h2) hy hC (ih k _ _ _ h5 hC h)
  | one i t ih =>
    intro k d a w hk hC h
    cases k with
    | zero => exact Bool.noConfusion hk
    | succ k =>
      rw [trOk2, Bool.and_eq_true] at hk
      have hr : Region.ready .any ops d = [i] := by
        have := hk.1
        split at this
        · rename_i j hj; rw [hj, Nat.eq_of_beq_eq_true this]
        · cases this
      refine ⟨fun h0 => (by rw [hr] at h0; cases h0), fun j hj => ?_⟩
      rw [hr] at hj
      obtain rfl : j = i := by simpa using hj
      have hk2 := hk.2
      refine wpOp_mono (fun a' w' h' => ⟨fun e => ?_, fun e => ?_⟩) h
      · rw [show Nat.beq j s = true from by rw [e, Nat.beq_refl]] at hk2
        exact ⟨(h'.1 e).1, AHeld.any hs hQ t k _ _ _ hk2 (h'.1 e).1 (h'.1 e).2⟩
      · rw [show Nat.beq j s = false from by cases hb : Nat.beq j s with | true => exact absurd (Nat.eq_of_beq_eq_true hb) e | false => rfl] at hk2
        exact ⟨(h'.2 e).1, ih k _ _ _ hk2 (h'.2 e).1 (h'.2 e).2⟩
  | two i t j u iht ihu =>
    intro k d a w hk hC h
    cases k with
    | zero => exact Bool.noConfusion hk
    | succ k =>
      rw [trOk2, Bool.and_eq_true, Bool.and_eq_true, Bool.and_eq_true, Bool.and_eq_true] at hk
      obtain ⟨⟨⟨⟨h1, h2⟩, h3⟩, h4⟩, h5⟩ := hk
      have hr : Region.ready .any ops d = [i, j] := by
        split at h1
        · rename_i i' j' hj
          rw [Bool.and_eq_true] at h1
          rw [hj, Nat.eq_of_beq_eq_true h1.1, Nat.eq_of_beq_eq_true h1.2]
        · cases h1
      refine ⟨fun h0 => (by rw [hr] at h0; cases h0), fun m hm => ?_⟩
      rw [hr] at hm
      rcases (by simpa using hm : m = i ∨ m = j) with rfl | rfl
      · exact wpOp_mono (fun a' w' h' => ⟨fun e => absurd e (beq_ne (by simpa using h2)), fun _ => ⟨h'.1, iht k _ _ _ h4 h'.1 h'.2⟩⟩) h.1
      · exact wpOp_mono (fun a' w' h' => ⟨fun e => absurd e (beq_ne (by simpa using h3)), fun _ => ⟨h'.1, ihu k _ _ _ h5 h'.1 h'.2⟩⟩) h.2
end

section
variable {P : Program} {N : Nat} {Q : Post} {e : Env} {w w0 : World} {ops : Array Oper} {ty : TypeId} {S S1 : Nat → Prop} {s : Nat} {K' : Value → World → Prop}
/-- The walk up to the last write. -/
def AL2 (P : Program) (N : Nat) (ops : Array Oper) (w0 : World) (S S1 : Nat → Prop) (s : Nat) (Q : Post) (t : Tr) (e : Env) (w : World) : Prop :=
  (∀ b, S b → S1 b) → Chg S w0 w → ∀ a, Rep N a e → AHeld2 P ops (calm (lift N Q)) (fun w' => Chg S w0 w') (fun w' => Chg S1 w0 w') s t a w
/-- s: the number of the last write; S: the blocks written up to it, S1: with it. -/
theorem CW.held2 {id : Nat} {l : List Oper} (s : Nat) (S S1 : Nat → Prop) (t : Tr) (hSS : ∀ b, S b → S1 b) (hm : P.follows .mixedOrders = true) (hs : Region.noSelect l.toArray = true)
    (hok : trOk2 l.toArray s l.toArray.size t (Array.replicate l.toArray.size false) = true) (h : ∀ w1, Grow w w1 → AL2 P N l.toArray w S S1 s Q t e w1) : CW P N (.region id l.toArray true) Q e w := by
  intro a ha
  refine Code.wp_mono (Q := calm (lift N Q)) ?_ (wp_region_any hm (wpP_any (S0 := fun w' => Chg S w w') (S1 := fun w' => Chg S1 w w') (s := s) _ _ _ _ ?_))
  · intro x a w h
    cases x with
    | panic c => exact h.elim
    | normal => exact h
    | exit id => exact h
    | goto l => exact h
    | ret => exact h
    | outgrown => exact h
  · exact AHeld2.any hs (fun w h => h.mono fun k _ hk => hSS k hk) (fun c a w h => h) t _ _ _ _ hok (Chg.drew (Chg.refl _ _)) (h _ (Chg.drew (Chg.refl _ _)) hSS (Chg.drew (Chg.refl _ _)) a ha)
theorem AL2.take {i d : Nat} {op : Op} {v : Value} {pos : String} {after : Array Edge} {t : Tr} (hbo : bindsOn ops s i = true) (hi : ops[i]? = some ⟨some d, op, ty, pos, after, none⟩) (hd : Nat.blt d N = true) (hv : valOp op = true)
    (h : ∀ w, Chg S w0 w → OpW P op ty e w fun v' w' => v' = v ∧ w' = w) (hn : AL2 P N ops w0 S S1 s Q t (upd e d v) w) : AL2 P N ops w0 S S1 s Q (.take i t) e w :=
  fun hss hc a ha => ⟨_, v, hi, yields_of ha.eval hv rfl fun w hw => h w (by rw [if_pos hbo] at hw; exact hw), hn hss hc _ (ha.put (blt_lt hd) v)⟩
theorem AL2.takeU {i d : Nat} {op : Op} {v : Value} {pos : String} {after : Array Edge} {t : Tr} (hi : ops[i]? = some ⟨some d, op, ty, pos, after, none⟩) (hd : Nat.blt d N = true) (hv : valOp op = true)
    (h : ∀ w, Chg S1 w0 w → OpW P op ty e w fun v' w' => v' = v ∧ w' = w) (hn : AL2 P N ops w0 S S1 s Q t (upd e d v) w) : AL2 P N ops w0 S S1 s Q (.take i t) e w :=
  fun hss hc a ha => ⟨_, v, hi, yields_of ha.eval hv rfl fun w hw => h w (by split at hw; exact hw.mono fun k _ hk => hss k hk; exact hw), hn hss hc _ (ha.put (blt_lt hd) v)⟩
theorem AL2.gtake {i d j dj : Nat} {want : Bool} {op : Op} {v : Value} {pos : String} {after : Array Edge} {t : Tr} (hbo : bindsOn ops s i = true) (hi : ops[i]? = some ⟨some d, op, ty, pos, after, some (j, want)⟩) (hj : (ops[j]?).bind (·.dst) = some dj) (hn' : Nat.blt dj N = true) (hd : Nat.blt d N = true) (hb : e dj = .bool want) (hv : valOp op = true)
    (h : ∀ w, Chg S w0 w → OpW P op ty e w fun v' w' => v' = v ∧ w' = w) (hn : AL2 P N ops w0 S S1 s Q t (upd e d v) w) : AL2 P N ops w0 S S1 s Q (.take i t) e w :=
  fun hss hc a ha => ⟨_, v, hi, yields_of ha.eval hv (by rw [wanted_of (N := N) (e := e) ha rfl hj hn' hb]; simp) fun w hw => h w (by rw [if_pos hbo] at hw; exact hw), hn hss hc _ (ha.put (blt_lt hd) v)⟩
theorem AL2.gtakeU {i d j dj : Nat} {want : Bool} {op : Op} {v : Value} {pos : String} {after : Array Edge} {t : Tr} (hi : ops[i]? = some ⟨some d, op, ty, pos, after, some (j, want)⟩) (hj : (ops[j]?).bind (·.dst) = some dj) (hn' : Nat.blt dj N = true) (hd : Nat.blt d N = true) (hb : e dj = .bool want) (hv : valOp op = true)
    (h : ∀ w, Chg S1 w0 w → OpW P op ty e w fun v' w' => v' = v ∧ w' = w) (hn : AL2 P N ops w0 S S1 s Q t (upd e d v) w) : AL2 P N ops w0 S S1 s Q (.take i t) e w :=
  fun hss hc a ha => ⟨_, v, hi, yields_of ha.eval hv (by rw [wanted_of (N := N) (e := e) ha rfl hj hn' hb]; simp) fun w hw => h w (by split at hw; exact hw.mono fun k _ hk => hss k hk; exact hw), hn hss hc _ (ha.put (blt_lt hd) v)⟩
theorem AL2.gskip {i d j dj : Nat} {want : Bool} {op : Op} {pos : String} {after : Array Edge} {t : Tr} (hi : ops[i]? = some ⟨some d, op, ty, pos, after, some (j, want)⟩) (hj : (ops[j]?).bind (·.dst) = some dj) (hn' : Nat.blt dj N = true) (hd : Nat.blt d N = true) (hb : e dj = .bool (!want))
    (hn : AL2 P N ops w0 S S1 s Q t (upd e d undef) w) : AL2 P N ops w0 S S1 s Q (.take i t) e w :=
  fun hss hc a ha => ⟨_, undef, hi, Or.inr ⟨by rw [wanted_of (N := N) (e := e) ha rfl hj hn' hb]; cases want <;> rfl, rfl⟩, hn hss hc _ (ha.put (blt_lt hd) undef)⟩

theorem AL2.one {i d : Nat} {op : Op} {pos : String} {after : Array Edge} {t : Tr} (his : Nat.beq i s = false) (hi : ops[i]? = some ⟨some d, op, ty, pos, after, none⟩) (hd : Nat.blt d N = true)
    (h : OpW P op ty e w fun v w' => (Chg S w0 w → Chg S w0 w') ∧ AL2 P N ops w0 S S1 s Q t (upd e d v) w') : AL2 P N ops w0 S S1 s Q (.one i t) e w := by
  intro hss hc a ha
  show wpOp P ops _ i _ a w
  unfold wpOp
  simp only [hi]
  rw [if_pos (c := Region.wanted _ (yielded ops a.tmps) = true) rfl]
  exact Or.inl (OpW.toWp ha.eval (h.mono fun v w' ⟨h1, h2⟩ => ⟨fun e => absurd e (beq_ne his), fun _ => ⟨h1 hc, h2 hss (h1 hc) _ (ha.put (blt_lt hd) v)⟩⟩))
theorem AL2.one0 {i : Nat} {op : Op} {pos : String} {after : Array Edge} {t : Tr} (his : Nat.beq i s = false) (hi : ops[i]? = some ⟨none, op, ty, pos, after, none⟩)
    (h : OpW P op ty e w fun v w' => (Chg S w0 w → Chg S w0 w') ∧ AL2 P N ops w0 S S1 s Q t e w') : AL2 P N ops w0 S S1 s Q (.one i t) e w := by
  intro hss hc a ha
  show wpOp P ops _ i _ a w
  unfold wpOp
  simp only [hi]
  rw [if_pos (c := Region.wanted _ (yielded ops a.tmps) = true) rfl]
  exact Or.inl (OpW.toWp (o := ⟨none, op, ty, pos, after, none⟩) ha.eval (h.mono fun v w' ⟨h1, h2⟩ => ⟨fun e => absurd e (beq_ne his), fun _ => ⟨h1 hc, h2 hss (h1 hc) _ ha⟩⟩))
theorem AL2.gone {i d j dj : Nat} {want : Bool} {op : Op} {pos : String} {after : Array Edge} {t : Tr} (his : Nat.beq i s = false) (hi : ops[i]? = some ⟨some d, op, ty, pos, after, some (j, want)⟩) (hj : (ops[j]?).bind (·.dst) = some dj) (hn' : Nat.blt dj N = true) (hd : Nat.blt d N = true) (hb : e dj = .bool want)
    (h : OpW P op ty e w fun v w' => (Chg S w0 w → Chg S w0 w') ∧ AL2 P N ops w0 S S1 s Q t (upd e d v) w') : AL2 P N ops w0 S S1 s Q (.one i t) e w := by
  intro hss hc a ha
  show wpOp P ops _ i _ a w
  unfold wpOp
  simp only [hi]
  rw [if_pos (by rw [wanted_of (N := N) (e := e) ha rfl hj hn' hb]; simp)]
  exact Or.inl (OpW.toWp ha.eval (h.mono fun v w' ⟨h1, h2⟩ => ⟨fun e => absurd e (beq_ne his), fun _ => ⟨h1 hc, h2 hss (h1 hc) _ (ha.put (blt_lt hd) v)⟩⟩))
theorem AL2.goneSkip {i d j dj : Nat} {want : Bool} {op : Op} {pos : String} {after : Array Edge} {t : Tr} (his : Nat.beq i s = false) (hi : ops[i]? = some ⟨some d, op, ty, pos, after, some (j, want)⟩) (hj : (ops[j]?).bind (·.dst) = some dj) (hn' : Nat.blt dj N = true) (hd : Nat.blt d N = true) (hb : e dj = .bool (!want))
    (hn : AL2 P N ops w0 S S1 s Q t (upd e d undef) w) : AL2 P N ops w0 S S1 s Q (.one i t) e w := by
  intro hss hc a ha
  show wpOp P ops _ i _ a w
  unfold wpOp
  simp only [hi]
  rw [if_neg (by rw [wanted_of (N := N) (e := e) ha rfl hj hn' hb]; cases want <;> simp)]
  exact ⟨fun e => absurd e (beq_ne his), fun _ => ⟨hc, hn hss hc _ (ha.put (blt_lt hd) undef)⟩⟩
/-- The last write. -/
theorem AL2.last0 {i : Nat} {op : Op} {pos : String} {after : Array Edge} {t : Tr} (his : Nat.beq i s = true) (hi : ops[i]? = some ⟨none, op, ty, pos, after, none⟩)
    (h : OpW P op ty e w fun v w' => (Chg S w0 w → Chg S1 w0 w') ∧ AL P N ops w0 S1 Q t e w') : AL2 P N ops w0 S S1 s Q (.one i t) e w := by
  intro hss hc a ha
  show wpOp P ops _ i _ a w
  unfold wpOp
  simp only [hi]
  rw [if_pos (c := Region.wanted _ (yielded ops a.tmps) = true) rfl]
  exact Or.inl (OpW.toWp (o := ⟨none, op, ty, pos, after, none⟩) ha.eval (h.mono fun v w' ⟨h1, h2⟩ => ⟨fun _ => ⟨h1 hc, h2 (h1 hc) _ ha⟩, fun e => absurd (Nat.eq_of_beq_eq_true his) e⟩))
theorem AL2.last {i d : Nat} {op : Op} {pos : String} {after : Array Edge} {t : Tr} (his : Nat.beq i s = true) (hi : ops[i]? = some ⟨some d, op, ty, pos, after, none⟩) (hd : Nat.blt d N = true)
    (h : OpW P op ty e w fun v w' => (Chg S w0 w → Chg S1 w0 w') ∧ AL P N ops w0 S1 Q t (upd e d v) w') : AL2 P N ops w0 S S1 s Q (.one i t) e w := by
  intro hss hc a ha
  show wpOp P ops _ i _ a w
  unfold wpOp
  simp only [hi]
  rw [if_pos (c := Region.wanted _ (yielded ops a.tmps) = true) rfl]
  exact Or.inl (OpW.toWp ha.eval (h.mono fun v w' ⟨h1, h2⟩ => ⟨fun _ => ⟨h1 hc, h2 (h1 hc) _ (ha.put (blt_lt hd) v)⟩, fun e => absurd (Nat.eq_of_beq_eq_true his) e⟩))
theorem AL2.two {i j : Nat} {t u : Tr} (his : Nat.beq i s = false) (hjs : Nat.beq j s = false) (h1 : AL2 P N ops w0 S S1 s Q (.one i t) e w) (h2 : AL2 P N ops w0 S S1 s Q (.one j u) e w) : AL2 P N ops w0 S S1 s Q (.two i t j u) e w :=
  fun hss hc a ha => ⟨wpOp_mono (fun a' w' h => h.2 (beq_ne his)) (h1 hss hc a ha), wpOp_mono (fun a' w' h => h.2 (beq_ne hjs)) (h2 hss hc a ha)⟩
theorem AL2.gskipU {i d j dj : Nat} {want : Bool} {op : Op} {pos : String} {after : Array Edge} {t : Tr} (hi : ops[i]? = some ⟨some d, op, ty, pos, after, some (j, want)⟩) (hj : (ops[j]?).bind (·.dst) = some dj) (hn' : Nat.blt dj N = true) (hd : Nat.blt d N = true) (hb : e dj = undef)
    (hn : AL2 P N ops w0 S S1 s Q t (upd e d undef) w) : AL2 P N ops w0 S S1 s Q (.take i t) e w :=
  fun hss hc a ha => ⟨_, undef, hi, Or.inr ⟨wanted_undef (N := N) (e := e) ha rfl hj hn' hb, rfl⟩, hn hss hc _ (ha.put (blt_lt hd) undef)⟩
theorem AL2.goneSkipU {i d j dj : Nat} {want : Bool} {op : Op} {pos : String} {after : Array Edge} {t : Tr} (his : Nat.beq i s = false) (hi : ops[i]? = some ⟨some d, op, ty, pos, after, some (j, want)⟩) (hj : (ops[j]?).bind (·.dst) = some dj) (hn' : Nat.blt dj N = true) (hd : Nat.blt d N = true) (hb : e dj = undef)
    (hn : AL2 P N ops w0 S S1 s Q t (upd e d undef) w) : AL2 P N ops w0 S S1 s Q (.one i t) e w := by
  intro hss hc a ha
  show wpOp P ops _ i _ a w
  unfold wpOp
  simp only [hi]
  rw [if_neg (by rw [wanted_undef (N := N) (e := e) ha rfl hj hn' hb]; simp)]
  exact ⟨fun e => absurd e (beq_ne his), fun _ => ⟨hc, hn hss hc _ (ha.put (blt_lt hd) undef)⟩⟩

attribute [local irreducible] OpW WL CW Ret Sl Blk thn blk outOf
theorem AL2.auto {i d : Nat} {op : Op} {v : Value} {pos : String} {after : Array Edge} {t : Tr} (hbo : bindsOn ops s i = true := by kernel_rfl) (hi : ops[i]? = some ⟨some d, op, ty, pos, after, none⟩ := by rfl) (hd : Nat.blt d N = true := by rfl) (hv : valOp op = true := by rfl)
    (ho : ∀ w, Chg S w0 w → OpV P op ty e w v := by
      intro w hg K hK
      (first
 | (show OpW _ (.move _) _ _ _ _; first | exact OpW.move (v := .int _ _) rfl hK | exact OpW.move (v := .bool _) rfl hK | exact OpW.move (v := .slice _ _ _) rfl hK | exact OpW.move (v := .pointer _) rfl hK | exact OpW.move (v := .string _) rfl hK | exact OpW.move (v := .agg _) rfl hK | exact OpW.move (v := .tuple _) rfl hK | exact OpW.move (v := .func _ _ _) rfl hK)
 | (show OpW _ (.assign _) _ _ _ _; first | exact OpW.assign (v := .int _ _) rfl hK | exact OpW.assign (v := .bool _) rfl hK | exact OpW.assign (v := .slice _ _ _) rfl hK | exact OpW.assign (v := .pointer _) rfl hK | exact OpW.assign (v := .string _) rfl hK | exact OpW.assign (v := .agg _) rfl hK | exact OpW.assign (v := .tuple _) rfl hK | exact OpW.assign (v := .func _ _ _) rfl hK)
 | (show OpW _ (.nilCheck _) _ _ _ _; first | exact OpW.nilCheck rfl hK)
 | (show OpW _ (.fieldAddr _ _ _) _ _ _ _; first | exact OpW.fieldAddr rfl hK | exact OpW.fieldAddrS rfl (by assumption) hK)
 | (show OpW _ (.load _ _) _ _ _ _; first | exact OpW.load (v := .int _ _) rfl (Blk.grow (by assumption) hg) rfl hK | exact OpW.load (v := .slice _ _ _) rfl (Blk.grow (by assumption) hg) rfl hK | exact OpW.load (v := .bool _) rfl (Blk.grow (by assumption) hg) rfl hK | exact OpW.load (v := .pointer _) rfl (Blk.grow (by assumption) hg) rfl hK | exact OpW.load (v := .string _) rfl (Blk.grow (by assumption) hg) rfl hK | exact OpW.loadS rfl (Sl.grow (by assumption) hg) (by first | assumption | rfl) hK | exact OpW.load rfl (Blk.keep (by assumption) hg (by assumption)) rfl hK | exact OpW.loadS rfl (Sl.keep (by assumption) hg (by assumption)) (by first | assumption | rfl) hK)
 | (show OpW _ (.binOp .lss _ _ _ _) _ _ _ _; first | exact OpW.lss rfl rfl hK | exact OpW.lssStr rfl rfl hK)
 | (show OpW _ (.binOp .leq _ _ _ _) _ _ _ _; first | exact OpW.leq rfl rfl hK)
 | (show OpW _ (.binOp .gtr _ _ _ _) _ _ _ _; first | exact OpW.gtr rfl rfl hK)
 | (show OpW _ (.binOp .geq _ _ _ _) _ _ _ _; first | exact OpW.geq rfl rfl hK)
 | (show OpW _ (.binOp .eql _ _ _ _) _ _ _ _; first | exact OpW.eqlI rfl rfl hK | exact OpW.eqlP rfl rfl hK | exact OpW.eqlS rfl rfl hK | exact OpW.eqlStr rfl rfl hK | exact OpW.eqlB rfl rfl hK)
 | (show OpW _ (.binOp .neq _ _ _ _) _ _ _ _; first | exact OpW.neqI rfl rfl hK | exact OpW.neqP rfl rfl hK | exact OpW.neqStr rfl rfl hK | exact OpW.neqB rfl rfl hK)
 | (show OpW _ (.binOp .add _ _ _ _) _ _ _ _; first | exact OpW.addI _ rfl rfl ⟨rfl, by omega, by omega⟩ hK | exact OpW.addU _ rfl rfl ⟨rfl, by omega, by omega⟩ hK | exact OpW.addS rfl rfl (by omega) hK)
 | (show OpW _ (.binOp .sub _ _ _ _) _ _ _ _; first | exact OpW.subI _ rfl rfl ⟨rfl, by omega, by omega⟩ hK)
 | (show OpW _ (.binOp .mul _ _ _ _) _ _ _ _; first | exact OpW.mulI _ rfl rfl ⟨rfl, by omega, by omega⟩ hK)
 | (show OpW _ (.convert _ _ _) _ _ _ _; first | exact OpW.convByte rfl hK | exact OpW.convU64 rfl ⟨by omega, by omega⟩ hK | exact OpW.convI64 rfl ⟨by omega, by omega⟩ hK)
 | (show OpW _ (.call ⟨.builtin .len, _, _⟩) _ _ _ _; first | exact OpW.len rfl hK | exact OpW.lenStr rfl hK)
 | (show OpW _ (.call ⟨.builtin .cap, _, _⟩) _ _ _ _; first | exact OpW.cap rfl hK)
 | (show OpW _ (.call ⟨.builtin .min, _, _⟩) _ _ _ _; first | exact OpW.min rfl rfl hK)
 | (show OpW _ (.call ⟨.builtin .max, _, _⟩) _ _ _ _; first | exact OpW.max rfl rfl hK)
 | (show OpW _ (.unOp .not _ _) _ _ _ _; first | exact OpW.notP rfl hK | exact OpW.not rfl hK)
 | (show OpW _ (.extract _ _) _ _ _ _; first | exact OpW.extract (v := .int _ _) rfl rfl hK | exact OpW.extract (v := .bool _) rfl rfl hK | exact OpW.extract (v := .slice _ _ _) rfl rfl hK | exact OpW.extract (v := .pointer _) rfl rfl hK | exact OpW.extract (v := .string _) rfl rfl hK | exact OpW.extract (v := .agg _) rfl rfl hK | exact OpW.extract (v := .tuple _) rfl rfl hK | exact OpW.extract (v := .func _ _ _) rfl rfl hK)
 | (show OpW _ (.pick _ _ _) _ _ _ _; first | exact OpW.pickT (v := .bool _) rfl rfl hK | exact OpW.pickF (v := .bool _) rfl rfl hK)))
    (hn : AL2 P N ops w0 S S1 s Q t (upd e d v) w) : AL2 P N ops w0 S S1 s Q (.take i t) e w :=
  AL2.take hbo hi hd hv (fun w hg => ho w hg _ ⟨rfl, rfl⟩) hn
theorem AL2.gauto {i d j dj : Nat} {want : Bool} {op : Op} {v : Value} {pos : String} {after : Array Edge} {t : Tr} (hbo : bindsOn ops s i = true := by kernel_rfl) (hi : ops[i]? = some ⟨some d, op, ty, pos, after, some (j, want)⟩ := by rfl) (hj : (ops[j]?).bind (·.dst) = some dj := by rfl) (hn' : Nat.blt dj N = true := by rfl) (hd : Nat.blt d N = true := by rfl) (hb : e dj = .bool want := by rfl) (hv : valOp op = true := by rfl)
    (ho : ∀ w, Chg S w0 w → OpV P op ty e w v := by
      intro w hg K hK
      (first
 | (show OpW _ (.move _) _ _ _ _; first | exact OpW.move (v := .int _ _) rfl hK | exact OpW.move (v := .bool _) rfl hK | exact OpW.move (v := .slice _ _ _) rfl hK | exact OpW.move (v := .pointer _) rfl hK | exact OpW.move (v := .string _) rfl hK | exact OpW.move (v := .agg _) rfl hK | exact OpW.move (v := .tuple _) rfl hK | exact OpW.move (v := .func _ _ _) rfl hK)
 | (show OpW _ (.assign _) _ _ _ _; first | exact OpW.assign (v := .int _ _) rfl hK | exact OpW.assign (v := .bool _) rfl hK | exact OpW.assign (v := .slice _ _ _) rfl hK | exact OpW.assign (v := .pointer _) rfl hK | exact OpW.assign (v := .string _) rfl hK | exact OpW.assign (v := .agg _) rfl hK | exact OpW.assign (v := .tuple _) rfl hK | exact OpW.assign (v := .func _ _ _) rfl hK)
 | (show OpW _ (.nilCheck _) _ _ _ _; first | exact OpW.nilCheck rfl hK)
 | (show OpW _ (.fieldAddr _ _ _) _ _ _ _; first | exact OpW.fieldAddr rfl hK | exact OpW.fieldAddrS rfl (by assumption) hK)
 | (show OpW _ (.load _ _) _ _ _ _; first | exact OpW.load (v := .int _ _) rfl (Blk.grow (by assumption) hg) rfl hK | exact OpW.load (v := .slice _ _ _) rfl (Blk.grow (by assumption) hg) rfl hK | exact OpW.load (v := .bool _) rfl (Blk.grow (by assumption) hg) rfl hK | exact OpW.load (v := .pointer _) rfl (Blk.grow (by assumption) hg) rfl hK | exact OpW.load (v := .string _) rfl (Blk.grow (by assumption) hg) rfl hK | exact OpW.loadS rfl (Sl.grow (by assumption) hg) (by first | assumption | rfl) hK | exact OpW.load rfl (Blk.keep (by assumption) hg (by assumption)) rfl hK | exact OpW.loadS rfl (Sl.keep (by assumption) hg (by assumption)) (by first | assumption | rfl) hK)
 | (show OpW _ (.binOp .lss _ _ _ _) _ _ _ _; first | exact OpW.lss rfl rfl hK | exact OpW.lssStr rfl rfl hK)
 | (show OpW _ (.binOp .leq _ _ _ _) _ _ _ _; first | exact OpW.leq rfl rfl hK)
 | (show OpW _ (.binOp .gtr _ _ _ _) _ _ _ _; first | exact OpW.gtr rfl rfl hK)
 | (show OpW _ (.binOp .geq _ _ _ _) _ _ _ _; first | exact OpW.geq rfl rfl hK)
 | (show OpW _ (.binOp .eql _ _ _ _) _ _ _ _; first | exact OpW.eqlI rfl rfl hK | exact OpW.eqlP rfl rfl hK | exact OpW.eqlS rfl rfl hK | exact OpW.eqlStr rfl rfl hK | exact OpW.eqlB rfl rfl hK)
 | (show OpW _ (.binOp .neq _ _ _ _) _ _ _ _; first | exact OpW.neqI rfl rfl hK | exact OpW.neqP rfl rfl hK | exact OpW.neqStr rfl rfl hK | exact OpW.neqB rfl rfl hK)
 | (show OpW _ (.binOp .add _ _ _ _) _ _ _ _; first | exact OpW.addI _ rfl rfl ⟨rfl, by omega, by omega⟩ hK | exact OpW.addU _ rfl rfl ⟨rfl, by omega, by omega⟩ hK | exact OpW.addS rfl rfl (by omega) hK)
 | (show OpW _ (.binOp .sub _ _ _ _) _ _ _ _; first | exact OpW.subI _ rfl rfl ⟨rfl, by omega, by omega⟩ hK)
 | (show OpW _ (.binOp .mul _ _ _ _) _ _ _ _; first | exact OpW.mulI _ rfl rfl ⟨rfl, by omega, by omega⟩ hK)
 | (show OpW _ (.convert _ _ _) _ _ _ _; first | exact OpW.convByte rfl hK | exact OpW.convU64 rfl ⟨by omega, by omega⟩ hK | exact OpW.convI64 rfl ⟨by omega, by omega⟩ hK)
 | (show OpW _ (.call ⟨.builtin .len, _, _⟩) _ _ _ _; first | exact OpW.len rfl hK | exact OpW.lenStr rfl hK)
 | (show OpW _ (.call ⟨.builtin .cap, _, _⟩) _ _ _ _; first | exact OpW.cap rfl hK)
 | (show OpW _ (.call ⟨.builtin .min, _, _⟩) _ _ _ _; first | exact OpW.min rfl rfl hK)
 | (show OpW _ (.call ⟨.builtin .max, _, _⟩) _ _ _ _; first | exact OpW.max rfl rfl hK)
 | (show OpW _ (.unOp .not _ _) _ _ _ _; first | exact OpW.notP rfl hK | exact OpW.not rfl hK)
 | (show OpW _ (.extract _ _) _ _ _ _; first | exact OpW.extract (v := .int _ _) rfl rfl hK | exact OpW.extract (v := .bool _) rfl rfl hK | exact OpW.extract (v := .slice _ _ _) rfl rfl hK | exact OpW.extract (v := .pointer _) rfl rfl hK | exact OpW.extract (v := .string _) rfl rfl hK | exact OpW.extract (v := .agg _) rfl rfl hK | exact OpW.extract (v := .tuple _) rfl rfl hK | exact OpW.extract (v := .func _ _ _) rfl rfl hK)
 | (show OpW _ (.pick _ _ _) _ _ _ _; first | exact OpW.pickT (v := .bool _) rfl rfl hK | exact OpW.pickF (v := .bool _) rfl rfl hK)))
    (hn : AL2 P N ops w0 S S1 s Q t (upd e d v) w) : AL2 P N ops w0 S S1 s Q (.take i t) e w :=
  AL2.gtake hbo hi hj hn' hd hb hv (fun w hg => ho w hg _ ⟨rfl, rfl⟩) hn
theorem AL2.autoU {i d : Nat} {op : Op} {v : Value} {pos : String} {after : Array Edge} {t : Tr} (hi : ops[i]? = some ⟨some d, op, ty, pos, after, none⟩ := by rfl) (hd : Nat.blt d N = true := by rfl) (hv : valOp op = true := by rfl)
    (ho : ∀ w, Chg S1 w0 w → OpV P op ty e w v := by
      intro w hg K hK
      (first
 | (show OpW _ (.move _) _ _ _ _; first | exact OpW.move (v := .int _ _) rfl hK | exact OpW.move (v := .bool _) rfl hK | exact OpW.move (v := .slice _ _ _) rfl hK | exact OpW.move (v := .pointer _) rfl hK | exact OpW.move (v := .string _) rfl hK | exact OpW.move (v := .agg _) rfl hK | exact OpW.move (v := .tuple _) rfl hK | exact OpW.move (v := .func _ _ _) rfl hK)
 | (show OpW _ (.assign _) _ _ _ _; first | exact OpW.assign (v := .int _ _) rfl hK | exact OpW.assign (v := .bool _) rfl hK | exact OpW.assign (v := .slice _ _ _) rfl hK | exact OpW.assign (v := .pointer _) rfl hK | exact OpW.assign (v := .string _) rfl hK | exact OpW.assign (v := .agg _) rfl hK | exact OpW.assign (v := .tuple _) rfl hK | exact OpW.assign (v := .func _ _ _) rfl hK)
 | (show OpW _ (.nilCheck _) _ _ _ _; first | exact OpW.nilCheck rfl hK)
 | (show OpW _ (.fieldAddr _ _ _) _ _ _ _; first | exact OpW.fieldAddr rfl hK | exact OpW.fieldAddrS rfl (by assumption) hK)
 | (show OpW _ (.load _ _) _ _ _ _; first | exact OpW.load (v := .int _ _) rfl (Blk.grow (by assumption) hg) rfl hK | exact OpW.load (v := .slice _ _ _) rfl (Blk.grow (by assumption) hg) rfl hK | exact OpW.load (v := .bool _) rfl (Blk.grow (by assumption) hg) rfl hK | exact OpW.load (v := .pointer _) rfl (Blk.grow (by assumption) hg) rfl hK | exact OpW.load (v := .string _) rfl (Blk.grow (by assumption) hg) rfl hK | exact OpW.loadS rfl (Sl.grow (by assumption) hg) (by first | assumption | rfl) hK | exact OpW.load rfl (Blk.keep (by assumption) hg (by assumption)) rfl hK | exact OpW.loadS rfl (Sl.keep (by assumption) hg (by assumption)) (by first | assumption | rfl) hK)
 | (show OpW _ (.binOp .lss _ _ _ _) _ _ _ _; first | exact OpW.lss rfl rfl hK | exact OpW.lssStr rfl rfl hK)
 | (show OpW _ (.binOp .leq _ _ _ _) _ _ _ _; first | exact OpW.leq rfl rfl hK)
 | (show OpW _ (.binOp .gtr _ _ _ _) _ _ _ _; first | exact OpW.gtr rfl rfl hK)
 | (show OpW _ (.binOp .geq _ _ _ _) _ _ _ _; first | exact OpW.geq rfl rfl hK)
 | (show OpW _ (.binOp .eql _ _ _ _) _ _ _ _; first | exact OpW.eqlI rfl rfl hK | exact OpW.eqlP rfl rfl hK | exact OpW.eqlS rfl rfl hK | exact OpW.eqlStr rfl rfl hK | exact OpW.eqlB rfl rfl hK)
 | (show OpW _ (.binOp .neq _ _ _ _) _ _ _ _; first | exact OpW.neqI rfl rfl hK | exact OpW.neqP rfl rfl hK | exact OpW.neqStr rfl rfl hK | exact OpW.neqB rfl rfl hK)
 | (show OpW _ (.binOp .add _ _ _ _) _ _ _ _; first | exact OpW.addI _ rfl rfl ⟨rfl, by omega, by omega⟩ hK | exact OpW.addU _ rfl rfl ⟨rfl, by omega, by omega⟩ hK | exact OpW.addS rfl rfl (by omega) hK)
 | (show OpW _ (.binOp .sub _ _ _ _) _ _ _ _; first | exact OpW.subI _ rfl rfl ⟨rfl, by omega, by omega⟩ hK)
 | (show OpW _ (.binOp .mul _ _ _ _) _ _ _ _; first | exact OpW.mulI _ rfl rfl ⟨rfl, by omega, by omega⟩ hK)
 | (show OpW _ (.convert _ _ _) _ _ _ _; first | exact OpW.convByte rfl hK | exact OpW.convU64 rfl ⟨by omega, by omega⟩ hK | exact OpW.convI64 rfl ⟨by omega, by omega⟩ hK)
 | (show OpW _ (.call ⟨.builtin .len, _, _⟩) _ _ _ _; first | exact OpW.len rfl hK | exact OpW.lenStr rfl hK)
 | (show OpW _ (.call ⟨.builtin .cap, _, _⟩) _ _ _ _; first | exact OpW.cap rfl hK)
 | (show OpW _ (.call ⟨.builtin .min, _, _⟩) _ _ _ _; first | exact OpW.min rfl rfl hK)
 | (show OpW _ (.call ⟨.builtin .max, _, _⟩) _ _ _ _; first | exact OpW.max rfl rfl hK)
 | (show OpW _ (.unOp .not _ _) _ _ _ _; first | exact OpW.notP rfl hK | exact OpW.not rfl hK)
 | (show OpW _ (.extract _ _) _ _ _ _; first | exact OpW.extract (v := .int _ _) rfl rfl hK | exact OpW.extract (v := .bool _) rfl rfl hK | exact OpW.extract (v := .slice _ _ _) rfl rfl hK | exact OpW.extract (v := .pointer _) rfl rfl hK | exact OpW.extract (v := .string _) rfl rfl hK | exact OpW.extract (v := .agg _) rfl rfl hK | exact OpW.extract (v := .tuple _) rfl rfl hK | exact OpW.extract (v := .func _ _ _) rfl rfl hK)
 | (show OpW _ (.pick _ _ _) _ _ _ _; first | exact OpW.pickT (v := .bool _) rfl rfl hK | exact OpW.pickF (v := .bool _) rfl rfl hK)))
    (hn : AL2 P N ops w0 S S1 s Q t (upd e d v) w) : AL2 P N ops w0 S S1 s Q (.take i t) e w :=
  AL2.takeU hi hd hv (fun w hg => ho w hg _ ⟨rfl, rfl⟩) hn
theorem AL2.gautoU {i d j dj : Nat} {want : Bool} {op : Op} {v : Value} {pos : String} {after : Array Edge} {t : Tr} (hi : ops[i]? = some ⟨some d, op, ty, pos, after, some (j, want)⟩ := by rfl) (hj : (ops[j]?).bind (·.dst) = some dj := by rfl) (hn' : Nat.blt dj N = true := by rfl) (hd : Nat.blt d N = true := by rfl) (hb : e dj = .bool want := by rfl) (hv : valOp op = true := by rfl)
    (ho : ∀ w, Chg S1 w0 w → OpV P op ty e w v := by
      intro w hg K hK
      (first
 | (show OpW _ (.move _) _ _ _ _; first | exact OpW.move (v := .int _ _) rfl hK | exact OpW.move (v := .bool _) rfl hK | exact OpW.move (v := .slice _ _ _) rfl hK | exact OpW.move (v := .pointer _) rfl hK | exact OpW.move (v := .string _) rfl hK | exact OpW.move (v := .agg _) rfl hK | exact OpW.move (v := .tuple _) rfl hK | exact OpW.move (v := .func _ _ _) rfl hK)
 | (show OpW _ (.assign _) _ _ _ _; first | exact OpW.assign (v := .int _ _) rfl hK | exact OpW.assign (v := .bool _) rfl hK | exact OpW.assign (v := .slice _ _ _) rfl hK | exact OpW.assign (v := .pointer _) rfl hK | exact OpW.assign (v := .string _) rfl hK | exact OpW.assign (v := .agg _) rfl hK | exact OpW.assign (v := .tuple _) rfl hK | exact OpW.assign (v := .func _ _ _) rfl hK)
 | (show OpW _ (.nilCheck _) _ _ _ _; first | exact OpW.nilCheck rfl hK)
 | (show OpW _ (.fieldAddr _ _ _) _ _ _ _; first | exact OpW.fieldAddr rfl hK | exact OpW.fieldAddrS rfl (by assumption) hK)
 | (show OpW _ (.load _ _) _ _ _ _; first | exact OpW.load (v := .int _ _) rfl (Blk.grow (by assumption) hg) rfl hK | exact OpW.load (v := .slice _ _ _) rfl (Blk.grow (by assumption) hg) rfl hK | exact OpW.load (v := .bool _) rfl (Blk.grow (by assumption) hg) rfl hK | exact OpW.load (v := .pointer _) rfl (Blk.grow (by assumption) hg) rfl hK | exact OpW.load (v := .string _) rfl (Blk.grow (by assumption) hg) rfl hK | exact OpW.loadS rfl (Sl.grow (by assumption) hg) (by first | assumption | rfl) hK | exact OpW.load rfl (Blk.keep (by assumption) hg (by assumption)) rfl hK | exact OpW.loadS rfl (Sl.keep (by assumption) hg (by assumption)) (by first | assumption | rfl) hK)
 | (show OpW _ (.binOp .lss _ _ _ _) _ _ _ _; first | exact OpW.lss rfl rfl hK | exact OpW.lssStr rfl rfl hK)
 | (show OpW _ (.binOp .leq _ _ _ _) _ _ _ _; first | exact OpW.leq rfl rfl hK)
 | (show OpW _ (.binOp .gtr _ _ _ _) _ _ _ _; first | exact OpW.gtr rfl rfl hK)
 | (show OpW _ (.binOp .geq _ _ _ _) _ _ _ _; first | exact OpW.geq rfl rfl hK)
 | (show OpW _ (.binOp .eql _ _ _ _) _ _ _ _; first | exact OpW.eqlI rfl rfl hK | exact OpW.eqlP rfl rfl hK | exact OpW.eqlS rfl rfl hK | exact OpW.eqlStr rfl rfl hK | exact OpW.eqlB rfl rfl hK)
 | (show OpW _ (.binOp .neq _ _ _ _) _ _ _ _; first | exact OpW.neqI rfl rfl hK | exact OpW.neqP rfl rfl hK | exact OpW.neqStr rfl rfl hK | exact OpW.neqB rfl rfl hK)
 | (show OpW _ (.binOp .add _ _ _ _) _ _ _ _; first | exact OpW.addI _ rfl rfl ⟨rfl, by omega, by omega⟩ hK | exact OpW.addU _ rfl rfl ⟨rfl, by omega, by omega⟩ hK | exact OpW.addS rfl rfl (by omega) hK)
 | (show OpW _ (.binOp .sub _ _ _ _) _ _ _ _; first | exact OpW.subI _ rfl rfl ⟨rfl, by omega, by omega⟩ hK)
 | (show OpW _ (.binOp .mul _ _ _ _) _ _ _ _; first | exact OpW.mulI _ rfl rfl ⟨rfl, by omega, by omega⟩ hK)
 | (show OpW _ (.convert _ _ _) _ _ _ _; first | exact OpW.convByte rfl hK | exact OpW.convU64 rfl ⟨by omega, by omega⟩ hK | exact OpW.convI64 rfl ⟨by omega, by omega⟩ hK)
 | (show OpW _ (.call ⟨.builtin .len, _, _⟩) _ _ _ _; first | exact OpW.len rfl hK | exact OpW.lenStr rfl hK)
 | (show OpW _ (.call ⟨.builtin .cap, _, _⟩) _ _ _ _; first | exact OpW.cap rfl hK)
 | (show OpW _ (.call ⟨.builtin .min, _, _⟩) _ _ _ _; first | exact OpW.min rfl rfl hK)
 | (show OpW _ (.call ⟨.builtin .max, _, _⟩) _ _ _ _; first | exact OpW.max rfl rfl hK)
 | (show OpW _ (.unOp .not _ _) _ _ _ _; first | exact OpW.notP rfl hK | exact OpW.not rfl hK)
 | (show OpW _ (.extract _ _) _ _ _ _; first | exact OpW.extract (v := .int _ _) rfl rfl hK | exact OpW.extract (v := .bool _) rfl rfl hK | exact OpW.extract (v := .slice _ _ _) rfl rfl hK | exact OpW.extract (v := .pointer _) rfl rfl hK | exact OpW.extract (v := .string _) rfl rfl hK | exact OpW.extract (v := .agg _) rfl rfl hK | exact OpW.extract (v := .tuple _) rfl rfl hK | exact OpW.extract (v := .func _ _ _) rfl rfl hK)
 | (show OpW _ (.pick _ _ _) _ _ _ _; first | exact OpW.pickT (v := .bool _) rfl rfl hK | exact OpW.pickF (v := .bool _) rfl rfl hK)))
    (hn : AL2 P N ops w0 S S1 s Q t (upd e d v) w) : AL2 P N ops w0 S S1 s Q (.take i t) e w :=
  AL2.gtakeU hi hj hn' hd hb hv (fun w hg => ho w hg _ ⟨rfl, rfl⟩) hn
theorem AL2.oauto {i d : Nat} {op : Op} {v : Value} {pos : String} {after : Array Edge} {t : Tr} (his : Nat.beq i s = false := by rfl) (hi : ops[i]? = some ⟨some d, op, ty, pos, after, none⟩ := by rfl) (hd : Nat.blt d N = true := by rfl) (hv : valOp op = true := by rfl)
    (ho : OpV P op ty e w v := by
      intro K hK
      (first
 | (show OpW _ (.move _) _ _ _ _; first | exact OpW.move (v := .int _ _) rfl hK | exact OpW.move (v := .bool _) rfl hK | exact OpW.move (v := .slice _ _ _) rfl hK | exact OpW.move (v := .pointer _) rfl hK | exact OpW.move (v := .string _) rfl hK | exact OpW.move (v := .agg _) rfl hK | exact OpW.move (v := .tuple _) rfl hK | exact OpW.move (v := .func _ _ _) rfl hK)
 | (show OpW _ (.assign _) _ _ _ _; first | exact OpW.assign (v := .int _ _) rfl hK | exact OpW.assign (v := .bool _) rfl hK | exact OpW.assign (v := .slice _ _ _) rfl hK | exact OpW.assign (v := .pointer _) rfl hK | exact OpW.assign (v := .string _) rfl hK | exact OpW.assign (v := .agg _) rfl hK | exact OpW.assign (v := .tuple _) rfl hK | exact OpW.assign (v := .func _ _ _) rfl hK)
 | (show OpW _ (.nilCheck _) _ _ _ _; first | exact OpW.nilCheck rfl hK)
 | (show OpW _ (.fieldAddr _ _ _) _ _ _ _; first | exact OpW.fieldAddr rfl hK | exact OpW.fieldAddrS rfl (by assumption) hK)
 | (show OpW _ (.load _ _) _ _ _ _; first | exact OpW.load (v := .int _ _) rfl (by assumption) rfl hK | exact OpW.load (v := .slice _ _ _) rfl (by assumption) rfl hK | exact OpW.load (v := .bool _) rfl (by assumption) rfl hK | exact OpW.load (v := .pointer _) rfl (by assumption) rfl hK | exact OpW.load (v := .string _) rfl (by assumption) rfl hK | exact OpW.loadS rfl (by assumption) (by first | assumption | rfl) hK)
 | (show OpW _ (.binOp .lss _ _ _ _) _ _ _ _; first | exact OpW.lss rfl rfl hK | exact OpW.lssStr rfl rfl hK)
 | (show OpW _ (.binOp .leq _ _ _ _) _ _ _ _; first | exact OpW.leq rfl rfl hK)
 | (show OpW _ (.binOp .gtr _ _ _ _) _ _ _ _; first | exact OpW.gtr rfl rfl hK)
 | (show OpW _ (.binOp .geq _ _ _ _) _ _ _ _; first | exact OpW.geq rfl rfl hK)
 | (show OpW _ (.binOp .eql _ _ _ _) _ _ _ _; first | exact OpW.eqlI rfl rfl hK | exact OpW.eqlP rfl rfl hK | exact OpW.eqlS rfl rfl hK | exact OpW.eqlStr rfl rfl hK | exact OpW.eqlB rfl rfl hK)
 | (show OpW _ (.binOp .neq _ _ _ _) _ _ _ _; first | exact OpW.neqI rfl rfl hK | exact OpW.neqP rfl rfl hK | exact OpW.neqStr rfl rfl hK | exact OpW.neqB rfl rfl hK)
 | (show OpW _ (.binOp .add _ _ _ _) _ _ _ _; first | exact OpW.addI _ rfl rfl ⟨rfl, by omega, by omega⟩ hK | exact OpW.addU _ rfl rfl ⟨rfl, by omega, by omega⟩ hK | exact OpW.addS rfl rfl (by omega) hK)
 | (show OpW _ (.binOp .sub _ _ _ _) _ _ _ _; first | exact OpW.subI _ rfl rfl ⟨rfl, by omega, by omega⟩ hK)
 | (show OpW _ (.binOp .mul _ _ _ _) _ _ _ _; first | exact OpW.mulI _ rfl rfl ⟨rfl, by omega, by omega⟩ hK)
 | (show OpW _ (.convert _ _ _) _ _ _ _; first | exact OpW.convByte rfl hK | exact OpW.convU64 rfl ⟨by omega, by omega⟩ hK | exact OpW.convI64 rfl ⟨by omega, by omega⟩ hK)
 | (show OpW _ (.call ⟨.builtin .len, _, _⟩) _ _ _ _; first | exact OpW.len rfl hK | exact OpW.lenStr rfl hK)
 | (show OpW _ (.call ⟨.builtin .cap, _, _⟩) _ _ _ _; first | exact OpW.cap rfl hK)
 | (show OpW _ (.call ⟨.builtin .min, _, _⟩) _ _ _ _; first | exact OpW.min rfl rfl hK)
 | (show OpW _ (.call ⟨.builtin .max, _, _⟩) _ _ _ _; first | exact OpW.max rfl rfl hK)
 | (show OpW _ (.unOp .not _ _) _ _ _ _; first | exact OpW.notP rfl hK | exact OpW.not rfl hK)
 | (show OpW _ (.extract _ _) _ _ _ _; first | exact OpW.extract (v := .int _ _) rfl rfl hK | exact OpW.extract (v := .bool _) rfl rfl hK | exact OpW.extract (v := .slice _ _ _) rfl rfl hK | exact OpW.extract (v := .pointer _) rfl rfl hK | exact OpW.extract (v := .string _) rfl rfl hK | exact OpW.extract (v := .agg _) rfl rfl hK | exact OpW.extract (v := .tuple _) rfl rfl hK | exact OpW.extract (v := .func _ _ _) rfl rfl hK)
 | (show OpW _ (.pick _ _ _) _ _ _ _; first | exact OpW.pickT (v := .bool _) rfl rfl hK | exact OpW.pickF (v := .bool _) rfl rfl hK)))
    (hn : AL2 P N ops w0 S S1 s Q t (upd e d v) w) : AL2 P N ops w0 S S1 s Q (.one i t) e w :=
  AL2.one his hi hd (ho _ ⟨id, hn⟩)
end
end B
end Go.Proofs.YtbcmmamipjbfpaaDoor
