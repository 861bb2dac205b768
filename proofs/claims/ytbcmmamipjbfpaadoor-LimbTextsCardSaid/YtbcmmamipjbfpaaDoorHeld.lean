/- Regions whose order is drawn and whose operations make or write memory: what yields the same value in every world of the region is taken first, the others one by one. No conditions. -/
import Derived.Test.YtbcmmamipjbfpaaDoorAuto
import Derived.OrdersHeld
namespace Go.Proofs.YtbcmmamipjbfpaaDoor
namespace B
set_option linter.unusedVariables false
set_option linter.unusedSimpArgs false

/-- The order of the walk: taken first | the only one that may come up | one of two. -/
inductive Tr where
  | nil
  | take (i : Nat) (t : Tr)
  | one (i : Nat) (t : Tr)
  | two (i : Nat) (t : Tr) (j : Nat) (u : Tr)

def trOk (ops : Array Oper) : Nat → Tr → Array Bool → Bool
  | _, .nil, d => (Region.ready .any ops d).isEmpty
  | k + 1, .take i t, d => Region.free .any ops d i && (Region.ready .any ops d).contains i && trOk ops k t (d.setIfInBounds i true)
  | k + 1, .one i t, d => (match Region.ready .any ops d with | [j] => Nat.beq i j | _ => false) && trOk ops k t (d.setIfInBounds i true)
  | k + 1, .two i t j u, d => (match Region.ready .any ops d with | [i', j'] => Nat.beq i i' && Nat.beq j j' | _ => false) && trOk ops k t (d.setIfInBounds i true) && trOk ops k u (d.setIfInBounds j true)
  | 0, _, _ => false

section
variable {P : Program} {N : Nat} {Q : Post} {e : Env} {w w0 : World} {ops : Array Oper} {ty : TypeId} {S : Nat → Prop} {K' : Value → World → Prop}

def AHeld (P : Program) (ops : Array Oper) (Q : Exit → Act → World → Prop) (C : World → Prop) : Tr → Act → World → Prop
  | .nil, a, w => Q .normal a w
  | .take i t, a, w => ∃ o v, ops[i]? = some o ∧ YieldsIf P ops C o v a ∧ AHeld P ops Q C t (a.put o.dst v) w
  | .one i t, a, w => wpOp P ops Q i (fun a' w' => C w' ∧ AHeld P ops Q C t a' w') a w
  | .two i t j u, a, w => wpOp P ops Q i (fun a' w' => C w' ∧ AHeld P ops Q C t a' w') a w ∧ wpOp P ops Q j (fun a' w' => C w' ∧ AHeld P ops Q C u a' w') a w

theorem AHeld.any {Q : Exit → Act → World → Prop} {C : World → Prop} (hs : Region.noSelect ops = true) (hQ : ∀ c a w, ¬ Q (.panic c) a w) :
    ∀ (t : Tr) (k : Nat) (d : Array Bool) (a : Act) (w : World), trOk ops k t d = true → C w → AHeld P ops Q C t a w → wpAnyH P .any ops Q C k d a w := by
  intro t
  induction t with
  | nil =>
    intro k d a w hk hC h
    have hn : Region.ready .any ops d = [] := by cases k <;> simpa [trOk] using hk
    exact wpAnyH_done hn h k
  | take i t ih =>
    intro k d a w hk hC h
    cases k with
    | zero => exact Bool.noConfusion hk
    | succ k =>
      rw [trOk, Bool.and_eq_true, Bool.and_eq_true] at hk
      obtain ⟨o, v, ho, hy, h⟩ := h
      exact wpAnyH_take ho hs hk.1.1 hk.1.2 (fun c a w h => (hQ _ _ _ h).elim) hy hC (ih k _ _ _ hk.2 hC h)
  | one i t ih =>
    intro k d a w hk hC h
    cases k with
    | zero => exact Bool.noConfusion hk
    | succ k =>
      rw [trOk, Bool.and_eq_true] at hk
      have hr : Region.ready .any ops d = [i] := by
        have := hk.1
        split at this
        · rename_i j hj; rw [hj, Nat.eq_of_beq_eq_true this]
        · cases this
      refine wpAnyH_all hr (by simp) fun j hj => ?_
      obtain rfl : j = i := by simpa using hj
      exact wpOp_mono (fun a' w' h' => ⟨h'.1, ih k _ _ _ hk.2 h'.1 h'.2⟩) h
  | two i t j u iht ihu =>
    intro k d a w hk hC h
    cases k with
    | zero => exact Bool.noConfusion hk
    | succ k =>
      rw [trOk, Bool.and_eq_true, Bool.and_eq_true] at hk
      have hr : Region.ready .any ops d = [i, j] := by
        have := hk.1.1
        split at this
        · rename_i i' j' hj
          rw [Bool.and_eq_true] at this
          rw [hj, Nat.eq_of_beq_eq_true this.1, Nat.eq_of_beq_eq_true this.2]
        · cases this
      refine wpAnyH_all hr (by simp) fun m hm => ?_
      rcases (by simpa using hm : m = i ∨ m = j) with rfl | rfl
      · exact wpOp_mono (fun a' w' h' => ⟨h'.1, iht k _ _ _ hk.1.2 h'.1 h'.2⟩) h.1
      · exact wpOp_mono (fun a' w' h' => ⟨h'.1, ihu k _ _ _ hk.2 h'.1 h'.2⟩) h.2

def calm (Q : Exit → Act → World → Prop) : Exit → Act → World → Prop := fun x a w => match x with | .panic _ => False | x => Q x a w

/-- The walk of such a region from a point on: only blocks of S (and new ones) are written by it. -/
def AL (P : Program) (N : Nat) (ops : Array Oper) (w0 : World) (S : Nat → Prop) (Q : Post) (t : Tr) (e : Env) (w : World) : Prop :=
  Chg S w0 w → ∀ a, Rep N a e → AHeld P ops (calm (lift N Q)) (fun w' => Chg S w0 w') t a w

theorem CW.held {id : Nat} {l : List Oper} (S : Nat → Prop) (t : Tr) (hm : P.follows .mixedOrders = true) (hs : Region.noSelect l.toArray = true)
    (hok : trOk l.toArray l.toArray.size t (Array.replicate l.toArray.size false) = true) (h : ∀ w1, Grow w w1 → AL P N l.toArray w S Q t e w1) : CW P N (.region id l.toArray true) Q e w := by
  intro a ha
  refine Code.wp_mono (Q := calm (lift N Q)) ?_ (wp_region_held (S := fun w' => Chg S w w') hm ?_)
  · intro x a w h
    cases x with
    | panic c => exact h.elim
    | normal => exact h
    | exit id => exact h
    | goto l => exact h
    | ret => exact h
    | outgrown => exact h
  · exact AHeld.any hs (fun c a w h => h) t _ _ _ _ hok (Chg.drew (Chg.refl _ _)) (h _ (Chg.drew (Chg.refl _ _)) (Chg.drew (Chg.refl _ _)) a ha)

theorem AL.know {t : Tr} (h : Chg S w0 w → AL P N ops w0 S Q t e w) : AL P N ops w0 S Q t e w := fun hc => h hc hc
theorem AL.nil (h : Q .normal e w) : AL P N ops w0 S Q .nil e w := fun _ a ha => ⟨e, ha, h⟩

theorem yields_of {o : Oper} {C : World → Prop} {v : Value} {a : Act} (he : a.eval = ev e) (hv : valOp o.op = true) (hw : Region.wanted o (yielded ops a.tmps) = true) (h : ∀ w, C w → OpW P o.op o.type e w fun v' w' => v' = v ∧ w' = w) : YieldsIf P ops C o v a := by
  refine Or.inl ⟨hw, fun w hC => ?_⟩
  have h1 := h w hC
  unfold OpW at h1
  have e1 : execOp a.eval o = execOp (ev e) ⟨none, o.op, o.type, "", #[], none⟩ := by rw [he]; rfl
  rw [e1]
  cases hr : (execOp (ev e) ⟨none, o.op, o.type, "", #[], none⟩).run P w with
  | ok n w' =>
    obtain ⟨u, rfl⟩ := not_enter hv hr
    rw [hr] at h1
    simp only [upon] at h1
    rw [h1.1, h1.2]
  | halt x w' => rw [hr] at h1; simp only [upon] at h1

theorem AL.take {i d : Nat} {op : Op} {v : Value} {pos : String} {after : Array Edge} {t : Tr} (hi : ops[i]? = some ⟨some d, op, ty, pos, after, none⟩) (hd : Nat.blt d N = true) (hv : valOp op = true)
    (h : ∀ w, Chg S w0 w → OpW P op ty e w fun v' w' => v' = v ∧ w' = w) (hn : AL P N ops w0 S Q t (upd e d v) w) : AL P N ops w0 S Q (.take i t) e w :=
  fun hc a ha => ⟨_, v, hi, yields_of ha.eval hv rfl h, hn hc _ (ha.put (blt_lt hd) v)⟩
theorem AL.gtake {i d j dj : Nat} {want : Bool} {op : Op} {v : Value} {pos : String} {after : Array Edge} {t : Tr} (hi : ops[i]? = some ⟨some d, op, ty, pos, after, some (j, want)⟩) (hj : (ops[j]?).bind (·.dst) = some dj) (hn' : Nat.blt dj N = true) (hd : Nat.blt d N = true) (hb : e dj = .bool want) (hv : valOp op = true)
    (h : ∀ w, Chg S w0 w → OpW P op ty e w fun v' w' => v' = v ∧ w' = w) (hn : AL P N ops w0 S Q t (upd e d v) w) : AL P N ops w0 S Q (.take i t) e w :=
  fun hc a ha => ⟨_, v, hi, yields_of ha.eval hv (by rw [wanted_of (N := N) (e := e) ha rfl hj hn' hb]; simp) h, hn hc _ (ha.put (blt_lt hd) v)⟩
theorem AL.gskip {i d j dj : Nat} {want : Bool} {op : Op} {pos : String} {after : Array Edge} {t : Tr} (hi : ops[i]? = some ⟨some d, op, ty, pos, after, some (j, want)⟩) (hj : (ops[j]?).bind (·.dst) = some dj) (hn' : Nat.blt dj N = true) (hd : Nat.blt d N = true) (hb : e dj = .bool (!want))
    (hn : AL P N ops w0 S Q t (upd e d undef) w) : AL P N ops w0 S Q (.take i t) e w :=
  fun hc a ha => ⟨_, undef, hi, Or.inr ⟨by rw [wanted_of (N := N) (e := e) ha rfl hj hn' hb]; cases want <;> rfl, rfl⟩, hn hc _ (ha.put (blt_lt hd) undef)⟩

theorem AL.one {i d : Nat} {op : Op} {pos : String} {after : Array Edge} {t : Tr} (hi : ops[i]? = some ⟨some d, op, ty, pos, after, none⟩) (hd : Nat.blt d N = true)
    (h : OpW P op ty e w fun v w' => (Chg S w0 w → Chg S w0 w') ∧ AL P N ops w0 S Q t (upd e d v) w') : AL P N ops w0 S Q (.one i t) e w := by
  intro hc a ha
  show wpOp P ops _ i _ a w
  unfold wpOp
  simp only [hi]
  rw [if_pos (c := Region.wanted _ (yielded ops a.tmps) = true) rfl]
  exact Or.inl (OpW.toWp ha.eval (h.mono fun v w' ⟨h1, h2⟩ => ⟨h1 hc, h2 (h1 hc) _ (ha.put (blt_lt hd) v)⟩))
theorem AL.one0 {i : Nat} {op : Op} {pos : String} {after : Array Edge} {t : Tr} (hi : ops[i]? = some ⟨none, op, ty, pos, after, none⟩)
    (h : OpW P op ty e w fun v w' => (Chg S w0 w → Chg S w0 w') ∧ AL P N ops w0 S Q t e w') : AL P N ops w0 S Q (.one i t) e w := by
  intro hc a ha
  show wpOp P ops _ i _ a w
  unfold wpOp
  simp only [hi]
  rw [if_pos (c := Region.wanted _ (yielded ops a.tmps) = true) rfl]
  exact Or.inl (OpW.toWp (o := ⟨none, op, ty, pos, after, none⟩) ha.eval (h.mono fun v w' ⟨h1, h2⟩ => ⟨h1 hc, h2 (h1 hc) _ ha⟩))
theorem AL.gone {i d j dj : Nat} {want : Bool} {op : Op} {pos : String} {after : Array Edge} {t : Tr} (hi : ops[i]? = some ⟨some d, op, ty, pos, after, some (j, want)⟩) (hj : (ops[j]?).bind (·.dst) = some dj) (hn' : Nat.blt dj N = true) (hd : Nat.blt d N = true) (hb : e dj = .bool want)
    (h : OpW P op ty e w fun v w' => (Chg S w0 w → Chg S w0 w') ∧ AL P N ops w0 S Q t (upd e d v) w') : AL P N ops w0 S Q (.one i t) e w := by
  intro hc a ha
  show wpOp P ops _ i _ a w
  unfold wpOp
  simp only [hi]
  rw [if_pos (by rw [wanted_of (N := N) (e := e) ha rfl hj hn' hb]; simp)]
  exact Or.inl (OpW.toWp ha.eval (h.mono fun v w' ⟨h1, h2⟩ => ⟨h1 hc, h2 (h1 hc) _ (ha.put (blt_lt hd) v)⟩))
theorem AL.goneSkip {i d j dj : Nat} {want : Bool} {op : Op} {pos : String} {after : Array Edge} {t : Tr} (hi : ops[i]? = some ⟨some d, op, ty, pos, after, some (j, want)⟩) (hj : (ops[j]?).bind (·.dst) = some dj) (hn' : Nat.blt dj N = true) (hd : Nat.blt d N = true) (hb : e dj = .bool (!want))
    (hn : AL P N ops w0 S Q t (upd e d undef) w) : AL P N ops w0 S Q (.one i t) e w := by
  intro hc a ha
  show wpOp P ops _ i _ a w
  unfold wpOp
  simp only [hi]
  rw [if_neg (by rw [wanted_of (N := N) (e := e) ha rfl hj hn' hb]; cases want <;> simp)]
  exact ⟨hc, hn hc _ (ha.put (blt_lt hd) undef)⟩
theorem AL.two {i j : Nat} {t u : Tr} (h1 : AL P N ops w0 S Q (.one i t) e w) (h2 : AL P N ops w0 S Q (.one j u) e w) : AL P N ops w0 S Q (.two i t j u) e w :=
  fun hc a ha => ⟨h1 hc a ha, h2 hc a ha⟩

/-- Bytes behind bytes of the own: seen from a world in which these weren't yet. -/
theorem OpW.appBZ {Z : Nat → Prop} {t t' by_ n cap m' c : Nat} {z : Value} {x y : Operand} {A B : Option Addr} {l m : List UInt8} [ht : ElemT P t 5 1 by_ z] (hb : by_ = 1 := by rfl) (hx : ev e x = .slice A n cap) (hy : ev e y = .slice B m' c) (hn : n = l.length) (hm : m' = m.length) (htt : t' = t) (ho : Own w A 5 1 l.length cap (bvs l) Z) (hs : Sl w B (bvs m)) (hg : Grow w0 w)
    (hZ : ∀ b, Z b → w0.heap.size ≤ b) (hZ2 : ∀ b, w.heap.size ≤ b → Z b) (hroom : l.length + m.length ≤ 140737488355328)
    (h : ∀ A' cap' w', Own w' A' 5 1 (l ++ m).length cap' (bvs (l ++ m)) Z → Grow w0 w' → Chg (fun b => ∃ a, A = some a ∧ a.block = b) w w' → K' (.slice A' (l ++ m).length cap') w') :
    OpW P (.call ⟨.builtin .append, #[x, y], #[t, t']⟩) ty e w K' := by
  subst hn hm hb
  refine OpW.append hx hy htt ho hs (bvs_len1 m) (bvs_one m) ⟨by omega, hroom⟩ fun A' cap' w' h1 h2 h3 => ?_
  rw [← List.length_append, ← bvs_append] at h1
  rw [← List.length_append]
  refine h A' cap' w' (h1.mono ?_) (hg.chgNew h2 ?_) h2
  · intro b hb
    rcases hb with ⟨a, ha, rfl⟩ | hb
    · exact (ho.in_ ha).1
    · exact hZ2 b hb
  · rintro i hi ⟨a, ha, rfl⟩
    have := hZ _ (ho.in_ ha).1
    omega
theorem OpW.appB {t t' by_ n cap m' c : Nat} {z : Value} {x y : Operand} {A B : Option Addr} {l m : List UInt8} [ht : ElemT P t 5 1 by_ z] (hb : by_ = 1 := by rfl) (hx : ev e x = .slice A n cap) (hy : ev e y = .slice B m' c) (hn : n = l.length) (hm : m' = m.length) (htt : t' = t) (ho : Own w A 5 1 l.length cap (bvs l) (fresh w0)) (hs : Sl w B (bvs m)) (hg : Grow w0 w)
    (hroom : l.length + m.length ≤ 140737488355328)
    (h : ∀ A' cap' w', Own w' A' 5 1 (l ++ m).length cap' (bvs (l ++ m)) (fresh w0) → Grow w0 w' → Chg (fun b => ∃ a, A = some a ∧ a.block = b) w w' → K' (.slice A' (l ++ m).length cap') w') :
    OpW P (.call ⟨.builtin .append, #[x, y], #[t, t']⟩) ty e w K' :=
  OpW.appBZ hb hx hy hn hm htt ho hs hg (fun _ h => h) (fun b hb => Nat.le_trans hg.size hb) hroom h

/-- What is guarded by something that was itself passed over. -/
theorem wanted_undef {o : Oper} {a : Act} {j dj : Nat} {want : Bool} (hr : Rep N a e) (hg : o.guard = some (j, want)) (hj : (ops[j]?).bind (·.dst) = some dj) (hn : Nat.blt dj N = true) (hb : e dj = undef) :
    Region.wanted o (yielded ops a.tmps) = false := by
  have := hr.slot (blt_lt hn)
  simp [Region.wanted, hg, yielded, hj, this, hb, undef]
theorem WL.gskipU {d j dj : Nat} {want : Bool} {op : Op} {pos : String} {after : Array Edge} {rest : List Oper} (hj : (ops[j]?).bind (·.dst) = some dj) (hn : Nat.blt dj N = true) (hd : Nat.blt d N = true)
    (hb : e dj = undef) (h : WL P N ops Q rest (upd e d undef) w) : WL P N ops Q (⟨some d, op, ty, pos, after, some (j, want)⟩ :: rest) e w := by
  intro a ha
  refine wpList_step fun K hK => ?_
  rw [if_neg (by rw [wanted_undef (N := N) (e := e) ha rfl hj hn hb]; simp)]
  exact hK _ _ (h _ (ha.put (blt_lt hd) undef))
theorem AL.gskipU {i d j dj : Nat} {want : Bool} {op : Op} {pos : String} {after : Array Edge} {t : Tr} (hi : ops[i]? = some ⟨some d, op, ty, pos, after, some (j, want)⟩) (hj : (ops[j]?).bind (·.dst) = some dj) (hn' : Nat.blt dj N = true) (hd : Nat.blt d N = true) (hb : e dj = undef)
    (hn : AL P N ops w0 S Q t (upd e d undef) w) : AL P N ops w0 S Q (.take i t) e w :=
  fun hc a ha => ⟨_, undef, hi, Or.inr ⟨wanted_undef (N := N) (e := e) ha rfl hj hn' hb, rfl⟩, hn hc _ (ha.put (blt_lt hd) undef)⟩
theorem AL.goneSkipU {i d j dj : Nat} {want : Bool} {op : Op} {pos : String} {after : Array Edge} {t : Tr} (hi : ops[i]? = some ⟨some d, op, ty, pos, after, some (j, want)⟩) (hj : (ops[j]?).bind (·.dst) = some dj) (hn' : Nat.blt dj N = true) (hd : Nat.blt d N = true) (hb : e dj = undef)
    (hn : AL P N ops w0 S Q t (upd e d undef) w) : AL P N ops w0 S Q (.one i t) e w := by
  intro hc a ha
  show wpOp P ops _ i _ a w
  unfold wpOp
  simp only [hi]
  rw [if_neg (by rw [wanted_undef (N := N) (e := e) ha rfl hj hn' hb]; simp)]
  exact ⟨hc, hn hc _ (ha.put (blt_lt hd) undef)⟩

attribute [local irreducible] OpW WL CW Ret Sl Blk thn blk outOf
/-- Taken first, the value found by itself. The region reads none of the blocks that it writes, or what it reads of them is told by hand. -/
theorem AL.auto {i d : Nat} {op : Op} {v : Value} {pos : String} {after : Array Edge} {t : Tr} (hi : ops[i]? = some ⟨some d, op, ty, pos, after, none⟩ := by rfl) (hd : Nat.blt d N = true := by rfl) (hv : valOp op = true := by rfl)
    (ho : ∀ w, Chg S w0 w → OpV P op ty e w v := by
      intro w hg K hK
      (first
 | (show OpW _ (.move _) _ _ _ _; first | exact OpW.move (v := .int _ _) rfl hK | exact OpW.move (v := .bool _) rfl hK | exact OpW.move (v := .slice _ _ _) rfl hK | exact OpW.move (v := .pointer _) rfl hK | exact OpW.move (v := .string _) rfl hK | exact OpW.move (v := .agg _) rfl hK | exact OpW.move (v := .tuple _) rfl hK | exact OpW.move (v := .func _ _ _) rfl hK)
 | (show OpW _ (.assign _) _ _ _ _; first | exact OpW.assign (v := .int _ _) rfl hK | exact OpW.assign (v := .bool _) rfl hK | exact OpW.assign (v := .slice _ _ _) rfl hK | exact OpW.assign (v := .pointer _) rfl hK | exact OpW.assign (v := .string _) rfl hK | exact OpW.assign (v := .agg _) rfl hK | exact OpW.assign (v := .tuple _) rfl hK | exact OpW.assign (v := .func _ _ _) rfl hK)
 | (show OpW _ (.nilCheck _) _ _ _ _; first | exact OpW.nilCheck rfl hK)
 | (show OpW _ (.fieldAddr _ _ _) _ _ _ _; first | exact OpW.fieldAddr rfl hK | exact OpW.fieldAddrS rfl (by assumption) hK)
 | (show OpW _ (.load _ _) _ _ _ _; first | exact OpW.load (v := .int _ _) rfl (Blk.grow (by assumption) hg) rfl hK | exact OpW.load (v := .slice _ _ _) rfl (Blk.grow (by assumption) hg) rfl hK | exact OpW.load (v := .bool _) rfl (Blk.grow (by assumption) hg) rfl hK | exact OpW.load (v := .pointer _) rfl (Blk.grow (by assumption) hg) rfl hK | exact OpW.load (v := .string _) rfl (Blk.grow (by assumption) hg) rfl hK | exact OpW.loadS rfl (Sl.grow (by assumption) hg) (by first | assumption | rfl) hK | exact OpW.load rfl (Blk.keep (by assumption) hg (by assumption)) rfl hK | exact OpW.loadS rfl (Sl.keep (by assumption) hg (by assumption)) (by first | assumption | rfl) hK)
 | (show OpW _ (.binOp .lss _ _ _ _) _ _ _ _; first | exact OpW.lss rfl rfl hK | exact OpW.lssStr rfl rfl hK)
 | (show OpW _ (.binOp .leq _ _ _ _) _ _ _ _; first | exact OpW.leq rfl rfl hK)
 | (show OpW _ (.binOp .gtr _ _ _ _) _ _ _ _; first | exact OpW.gtr rfl rfl hK)
 | (show OpW _ (.binOp .geq _ _ _ _) _ _ _ _; first | exact OpW.geq rfl rfl hK)
 | (show OpW _ (.binOp .eql _ _ _ _) _ _ _ _; first | exact OpW.eqlI rfl rfl hK | exact OpW.eqlP rfl rfl hK | exact OpW.eqlS rfl rfl hK | exact OpW.eqlStr rfl rfl hK | exact OpW.eqlB rfl rfl hK)
 | (show OpW _ (.binOp .neq _ _ _ _) _ _ _ _; first | exact OpW.neqI rfl rfl hK | exact OpW.neqP rfl rfl hK | exact OpW.neqStr rfl rfl hK | exact OpW.neqB rfl rfl hK)
 | (show OpW _ (.binOp .add _ _ _ _) _ _ _ _; first | exact OpW.addI _ rfl rfl ⟨rfl, by omega, by omega⟩ hK | exact OpW.addU _ rfl rfl ⟨rfl, by omega, by omega⟩ hK | exact OpW.addS rfl rfl (by omega) hK)
 | (show OpW _ (.binOp .sub _ _ _ _) _ _ _ _; first | exact OpW.subI _ rfl rfl ⟨rfl, by omega, by omega⟩ hK)
 | (show OpW _ (.binOp .mul _ _ _ _) _ _ _ _; first | exact OpW.mulI _ rfl rfl ⟨rfl, by omega, by omega⟩ hK)
 | (show OpW _ (.convert _ _ _) _ _ _ _; first | exact OpW.convByte rfl hK | exact OpW.convU64 rfl ⟨by omega, by omega⟩ hK | exact OpW.convI64 rfl ⟨by omega, by omega⟩ hK)
 | (show OpW _ (.call ⟨.builtin .len, _, _⟩) _ _ _ _; first | exact OpW.len rfl hK | exact OpW.lenStr rfl hK)
 | (show OpW _ (.call ⟨.builtin .cap, _, _⟩) _ _ _ _; first | exact OpW.cap rfl hK)
 | (show OpW _ (.call ⟨.builtin .min, _, _⟩) _ _ _ _; first | exact OpW.min rfl rfl hK)
 | (show OpW _ (.call ⟨.builtin .max, _, _⟩) _ _ _ _; first | exact OpW.max rfl rfl hK)
 | (show OpW _ (.unOp .not _ _) _ _ _ _; first | exact OpW.notP rfl hK | exact OpW.not rfl hK)
 | (show OpW _ (.extract _ _) _ _ _ _; first | exact OpW.extract (v := .int _ _) rfl rfl hK | exact OpW.extract (v := .bool _) rfl rfl hK | exact OpW.extract (v := .slice _ _ _) rfl rfl hK | exact OpW.extract (v := .pointer _) rfl rfl hK | exact OpW.extract (v := .string _) rfl rfl hK | exact OpW.extract (v := .agg _) rfl rfl hK | exact OpW.extract (v := .tuple _) rfl rfl hK | exact OpW.extract (v := .func _ _ _) rfl rfl hK)
 | (show OpW _ (.pick _ _ _) _ _ _ _; first | exact OpW.pickT (v := .bool _) rfl rfl hK | exact OpW.pickF (v := .bool _) rfl rfl hK)))
    (hn : AL P N ops w0 S Q t (upd e d v) w) : AL P N ops w0 S Q (.take i t) e w :=
  AL.take hi hd hv (fun w hg => ho w hg _ ⟨rfl, rfl⟩) hn
theorem AL.gauto {i d j dj : Nat} {want : Bool} {op : Op} {v : Value} {pos : String} {after : Array Edge} {t : Tr} (hi : ops[i]? = some ⟨some d, op, ty, pos, after, some (j, want)⟩ := by rfl) (hj : (ops[j]?).bind (·.dst) = some dj := by rfl) (hn' : Nat.blt dj N = true := by rfl) (hd : Nat.blt d N = true := by rfl) (hb : e dj = .bool want := by rfl) (hv : valOp op = true := by rfl)
    (ho : ∀ w, Chg S w0 w → OpV P op ty e w v := by
      intro w hg K hK
      (first
 | (show OpW _ (.move _) _ _ _ _; first | exact OpW.move (v := .int _ _) rfl hK | exact OpW.move (v := .bool _) rfl hK | exact OpW.move (v := .slice _ _ _) rfl hK | exact OpW.move (v := .pointer _) rfl hK | exact OpW.move (v := .string _) rfl hK | exact OpW.move (v := .agg _) rfl hK | exact OpW.move (v := .tuple _) rfl hK | exact OpW.move (v := .func _ _ _) rfl hK)
 | (show OpW _ (.assign _) _ _ _ _; first | exact OpW.assign (v := .int _ _) rfl hK | exact OpW.assign (v := .bool _) rfl hK | exact OpW.assign (v := .slice _ _ _) rfl hK | exact OpW.assign (v := .pointer _) rfl hK | exact OpW.assign (v := .string _) rfl hK | exact OpW.assign (v := .agg _) rfl hK | exact OpW.assign (v := .tuple _) rfl hK | exact OpW.assign (v := .func _ _ _) rfl hK)
 | (show OpW _ (.nilCheck _) _ _ _ _; first | exact OpW.nilCheck rfl hK)
 | (show OpW _ (.fieldAddr _ _ _) _ _ _ _; first | exact OpW.fieldAddr rfl hK | exact OpW.fieldAddrS rfl (by assumption) hK)
 | (show OpW _ (.load _ _) _ _ _ _; first | exact OpW.load (v := .int _ _) rfl (Blk.grow (by assumption) hg) rfl hK | exact OpW.load (v := .slice _ _ _) rfl (Blk.grow (by assumption) hg) rfl hK | exact OpW.load (v := .bool _) rfl (Blk.grow (by assumption) hg) rfl hK | exact OpW.load (v := .pointer _) rfl (Blk.grow (by assumption) hg) rfl hK | exact OpW.load (v := .string _) rfl (Blk.grow (by assumption) hg) rfl hK | exact OpW.loadS rfl (Sl.grow (by assumption) hg) (by first | assumption | rfl) hK | exact OpW.load rfl (Blk.keep (by assumption) hg (by assumption)) rfl hK | exact OpW.loadS rfl (Sl.keep (by assumption) hg (by assumption)) (by first | assumption | rfl) hK)
 | (show OpW _ (.binOp .lss _ _ _ _) _ _ _ _; first | exact OpW.lss rfl rfl hK | exact OpW.lssStr rfl rfl hK)
 | (show OpW _ (.binOp .leq _ _ _ _) _ _ _ _; first | exact OpW.leq rfl rfl hK)
 | (show OpW _ (.binOp .gtr _ _ _ _) _ _ _ _; first | exact OpW.gtr rfl rfl hK)
 | (show OpW _ (.binOp .geq _ _ _ _) _ _ _ _; first | exact OpW.geq rfl rfl hK)
 | (show OpW _ (.binOp .eql _ _ _ _) _ _ _ _; first | exact OpW.eqlI rfl rfl hK | exact OpW.eqlP rfl rfl hK | exact OpW.eqlS rfl rfl hK | exact OpW.eqlStr rfl rfl hK | exact OpW.eqlB rfl rfl hK)
 | (show OpW _ (.binOp .neq _ _ _ _) _ _ _ _; first | exact OpW.neqI rfl rfl hK | exact OpW.neqP rfl rfl hK | exact OpW.neqStr rfl rfl hK | exact OpW.neqB rfl rfl hK)
 | (show OpW _ (.binOp .add _ _ _ _) _ _ _ _; first | exact OpW.addI _ rfl rfl ⟨rfl, by omega, by omega⟩ hK | exact OpW.addU _ rfl rfl ⟨rfl, by omega, by omega⟩ hK | exact OpW.addS rfl rfl (by omega) hK)
 | (show OpW _ (.binOp .sub _ _ _ _) _ _ _ _; first | exact OpW.subI _ rfl rfl ⟨rfl, by omega, by omega⟩ hK)
 | (show OpW _ (.binOp .mul _ _ _ _) _ _ _ _; first | exact OpW.mulI _ rfl rfl ⟨rfl, by omega, by omega⟩ hK)
 | (show OpW _ (.convert _ _ _) _ _ _ _; first | exact OpW.convByte rfl hK | exact OpW.convU64 rfl ⟨by omega, by omega⟩ hK | exact OpW.convI64 rfl ⟨by omega, by omega⟩ hK)
 | (show OpW _ (.call ⟨.builtin .len, _, _⟩) _ _ _ _; first | exact OpW.len rfl hK | exact OpW.lenStr rfl hK)
 | (show OpW _ (.call ⟨.builtin .cap, _, _⟩) _ _ _ _; first | exact OpW.cap rfl hK)
 | (show OpW _ (.call ⟨.builtin .min, _, _⟩) _ _ _ _; first | exact OpW.min rfl rfl hK)
 | (show OpW _ (.call ⟨.builtin .max, _, _⟩) _ _ _ _; first | exact OpW.max rfl rfl hK)
 | (show OpW _ (.unOp .not _ _) _ _ _ _; first | exact OpW.notP rfl hK | exact OpW.not rfl hK)
 | (show OpW _ (.extract _ _) _ _ _ _; first | exact OpW.extract (v := .int _ _) rfl rfl hK | exact OpW.extract (v := .bool _) rfl rfl hK | exact OpW.extract (v := .slice _ _ _) rfl rfl hK | exact OpW.extract (v := .pointer _) rfl rfl hK | exact OpW.extract (v := .string _) rfl rfl hK | exact OpW.extract (v := .agg _) rfl rfl hK | exact OpW.extract (v := .tuple _) rfl rfl hK | exact OpW.extract (v := .func _ _ _) rfl rfl hK)
 | (show OpW _ (.pick _ _ _) _ _ _ _; first | exact OpW.pickT (v := .bool _) rfl rfl hK | exact OpW.pickF (v := .bool _) rfl rfl hK)))
    (hn : AL P N ops w0 S Q t (upd e d v) w) : AL P N ops w0 S Q (.take i t) e w :=
  AL.gtake hi hj hn' hd hb hv (fun w hg => ho w hg _ ⟨rfl, rfl⟩) hn
/-- One by one, where nothing is made: an assignment above all. -/
theorem AL.oauto {i d : Nat} {op : Op} {v : Value} {pos : String} {after : Array Edge} {t : Tr} (hi : ops[i]? = some ⟨some d, op, ty, pos, after, none⟩ := by rfl) (hd : Nat.blt d N = true := by rfl) (hv : valOp op = true := by rfl)
    (ho : OpV P op ty e w v := by
      intro K hK
      (first
 | (show OpW _ (.move _) _ _ _ _; first | exact OpW.move (v := .int _ _) rfl hK | exact OpW.move (v := .bool _) rfl hK | exact OpW.move (v := .slice _ _ _) rfl hK | exact OpW.move (v := .pointer _) rfl hK | exact OpW.move (v := .string _) rfl hK | exact OpW.move (v := .agg _) rfl hK | exact OpW.move (v := .tuple _) rfl hK | exact OpW.move (v := .func _ _ _) rfl hK)
 | (show OpW _ (.assign _) _ _ _ _; first | exact OpW.assign (v := .int _ _) rfl hK | exact OpW.assign (v := .bool _) rfl hK | exact OpW.assign (v := .slice _ _ _) rfl hK | exact OpW.assign (v := .pointer _) rfl hK | exact OpW.assign (v := .string _) rfl hK | exact OpW.assign (v := .agg _) rfl hK | exact OpW.assign (v := .tuple _) rfl hK | exact OpW.assign (v := .func _ _ _) rfl hK)
 | (show OpW _ (.nilCheck _) _ _ _ _; first | exact OpW.nilCheck rfl hK)
 | (show OpW _ (.fieldAddr _ _ _) _ _ _ _; first | exact OpW.fieldAddr rfl hK | exact OpW.fieldAddrS rfl (by assumption) hK)
 | (show OpW _ (.load _ _) _ _ _ _; first | exact OpW.load (v := .int _ _) rfl (by assumption) rfl hK | exact OpW.load (v := .slice _ _ _) rfl (by assumption) rfl hK | exact OpW.load (v := .bool _) rfl (by assumption) rfl hK | exact OpW.load (v := .pointer _) rfl (by assumption) rfl hK | exact OpW.load (v := .string _) rfl (by assumption) rfl hK | exact OpW.loadS rfl (by assumption) (by first | assumption | rfl) hK)
 | (show OpW _ (.binOp .lss _ _ _ _) _ _ _ _; first | exact OpW.lss rfl rfl hK | exact OpW.lssStr rfl rfl hK)
 | (show OpW _ (.binOp .leq _ _ _ _) _ _ _ _; first | exact OpW.leq rfl rfl hK)
 | (show OpW _ (.binOp .gtr _ _ _ _) _ _ _ _; first | exact OpW.gtr rfl rfl hK)
 | (show OpW _ (.binOp .geq _ _ _ _) _ _ _ _; first | exact OpW.geq rfl rfl hK)
 | (show OpW _ (.binOp .eql _ _ _ _) _ _ _ _; first | exact OpW.eqlI rfl rfl hK | exact OpW.eqlP rfl rfl hK | exact OpW.eqlS rfl rfl hK | exact OpW.eqlStr rfl rfl hK | exact OpW.eqlB rfl rfl hK)
 | (show OpW _ (.binOp .neq _ _ _ _) _ _ _ _; first | exact OpW.neqI rfl rfl hK | exact OpW.neqP rfl rfl hK | exact OpW.neqStr rfl rfl hK | exact OpW.neqB rfl rfl hK)
 | (show OpW _ (.binOp .add _ _ _ _) _ _ _ _; first | exact OpW.addI _ rfl rfl ⟨rfl, by omega, by omega⟩ hK | exact OpW.addU _ rfl rfl ⟨rfl, by omega, by omega⟩ hK | exact OpW.addS rfl rfl (by omega) hK)
 | (show OpW _ (.binOp .sub _ _ _ _) _ _ _ _; first | exact OpW.subI _ rfl rfl ⟨rfl, by omega, by omega⟩ hK)
 | (show OpW _ (.binOp .mul _ _ _ _) _ _ _ _; first | exact OpW.mulI _ rfl rfl ⟨rfl, by omega, by omega⟩ hK)
 | (show OpW _ (.convert _ _ _) _ _ _ _; first | exact OpW.convByte rfl hK | exact OpW.convU64 rfl ⟨by omega, by omega⟩ hK | exact OpW.convI64 rfl ⟨by omega, by omega⟩ hK)
 | (show OpW _ (.call ⟨.builtin .len, _, _⟩) _ _ _ _; first | exact OpW.len rfl hK | exact OpW.lenStr rfl hK)
 | (show OpW _ (.call ⟨.builtin .cap, _, _⟩) _ _ _ _; first | exact OpW.cap rfl hK)
 | (show OpW _ (.call ⟨.builtin .min, _, _⟩) _ _ _ _; first | exact OpW.min rfl rfl hK)
 | (show OpW _ (.call ⟨.builtin .max, _, _⟩) _ _ _ _; first | exact OpW.max rfl rfl hK)
 | (show OpW _ (.unOp .not _ _) _ _ _ _; first | exact OpW.notP rfl hK | exact OpW.not rfl hK)
 | (show OpW _ (.extract _ _) _ _ _ _; first | exact OpW.extract (v := .int _ _) rfl rfl hK | exact OpW.extract (v := .bool _) rfl rfl hK | exact OpW.extract (v := .slice _ _ _) rfl rfl hK | exact OpW.extract (v := .pointer _) rfl rfl hK | exact OpW.extract (v := .string _) rfl rfl hK | exact OpW.extract (v := .agg _) rfl rfl hK | exact OpW.extract (v := .tuple _) rfl rfl hK | exact OpW.extract (v := .func _ _ _) rfl rfl hK)
 | (show OpW _ (.pick _ _ _) _ _ _ _; first | exact OpW.pickT (v := .bool _) rfl rfl hK | exact OpW.pickF (v := .bool _) rfl rfl hK)))
    (hn : AL P N ops w0 S Q t (upd e d v) w) : AL P N ops w0 S Q (.one i t) e w :=
  AL.one hi hd (ho _ ⟨id, hn⟩)
end
end B
end Go.Proofs.YtbcmmamipjbfpaaDoor
