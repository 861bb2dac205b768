/- Slices of structs that came in; aggregates stored whole. No conditions. -/
import Derived.Test.YtlofcomnhecgfaaOpen
import Derived.Test.YtlofcomnhecgfaaMem5
import Derived.Laws.CopyRow
namespace Go.Proofs.Ytlofcomnhecgfaa
namespace B
set_option linter.unusedVariables false
set_option linter.unusedSimpArgs false

/-- A slice of elements of k cells each: R tells what the cells of one are. -/
def InStructs {α : Type} (w : World) (v : Value) (k : Nat) (R : α → List Value → Prop) (xs : List α) : Prop :=
  ∃ A cap cs, v = .slice A xs.length cap ∧ xs.length ≤ cap ∧ cap ≤ maxLen ∧ cs.length = xs.length * k ∧ Sl w A cs ∧ ∀ i x, xs[i]? = some x → R x ((cs.drop (i * k)).take k)

theorem choose_list {α : Type} (f : Nat → α → Prop) : ∀ n, (∀ i, i < n → ∃ o, f i o) → ∃ l : List α, l.length = n ∧ ∀ i p, l[i]? = some p → f i p := by
  intro n
  induction n with
  | zero => intro _; exact ⟨[], rfl, fun i p h => by simp at h⟩
  | succ n ih =>
    intro h
    obtain ⟨l, h1, h2⟩ := ih fun i hi => h i (by omega)
    obtain ⟨o, ho⟩ := h n (by omega)
    refine ⟨l ++ [o], by simp [h1], fun i p hp => ?_⟩
    rw [List.getElem?_append] at hp
    split at hp
    · exact h2 i p hp
    · rename_i hi
      have hin : i = n := by
        obtain ⟨hl, _⟩ := List.getElem?_eq_some_iff.1 hp
        simp at hl; omega
      subst hin
      rw [h1, Nat.sub_self] at hp
      simp at hp
      rw [← hp]; exact ho

theorem flat_part {k : Nat} : ∀ (css : List (List Value)), (∀ c ∈ css, c.length = k) → (css.flatten.length = css.length * k) ∧ (∀ i c, css[i]? = some c → (css.flatten.drop (i * k)).take k = c) ∧ (∀ q v, css.flatten[q]? = some v → ∃ i c j, css[i]? = some c ∧ c[j]? = some v ∧ q = i * k + j) := by
  intro css
  induction css with
  | nil => intro _; exact ⟨by simp, fun i c h => by simp at h, fun q v h => by simp at h⟩
  | cons c css ih =>
    intro h
    obtain ⟨h1, h2, h3⟩ := ih fun c hc => h c (List.mem_cons_of_mem _ hc)
    have hc : c.length = k := h c (List.mem_cons_self ..)
    refine ⟨by simp [h1, hc, Nat.succ_mul, Nat.add_comm], fun i d hd => ?_, fun q v hq => ?_⟩
    · cases i with
      | zero =>
        simp at hd; subst hd
        rw [List.flatten_cons, Nat.zero_mul, List.drop_zero, ← hc, List.take_left' rfl]
      | succ i =>
        rw [List.flatten_cons, Nat.succ_mul, Nat.add_comm (i * k) k, ← List.drop_drop]
        rw [show (c ++ css.flatten).drop k = css.flatten from by rw [← hc]; simp]
        exact h2 i d (by simpa using hd)
    · rw [List.flatten_cons, List.getElem?_append] at hq
      split at hq
      · exact ⟨0, c, q, rfl, hq, by omega⟩
      · obtain ⟨i, d, j, g1, g2, g3⟩ := h3 _ _ hq
        exact ⟨i + 1, d, j, by simpa using g1, g2, by rw [Nat.succ_mul]; omega⟩

theorem sum_part {α H : Type} (bulk : α → Nat) : ∀ (xs : List α) (ds : List (DataW H)), xs.length = ds.length → (∀ (i : Nat) (x : α) (d : DataW H), xs[i]? = some x → ds[i]? = some d → bulk x ≤ Rows.uptoBulk d) → (xs.map bulk).sum ≤ Rows.uptoBulkAll ds := by
  intro xs
  induction xs with
  | nil => intro ds h _; simp
  | cons x xs ih =>
    intro ds h hb
    cases ds with
    | nil => simp at h
    | cons d ds =>
      have h1 := hb 0 x d rfl rfl
      have h2 := ih ds (by simpa using h) fun i y e hy he => hb (i + 1) y e (by simpa using hy) (by simpa using he)
      simp only [List.map_cons, List.sum_cons, Rows.uptoBulkAll]
      omega

section
variable {H : Type} {enc : TypeId × Value → H} {P : Program} {w : World} {base : Nat} {spare : Nat → Bool} {held : Bool} {fuel : Nat} {cs : List Value} {x : DataW H × List MemPlace} {t : TypeId}
theorem open_structs {α : Type} {E : TypeId} {k : Nat} (R : α → List Value → Prop) (bulk : α → Nat) (ht : P.underlying t = some (.slice E)) (hc : P.cellsOf E = k) (hk : 0 < k)
    (ho : ∀ fuel cs (x : DataW H × List MemPlace), DataW.trod enc P w base spare held fuel E cs = some x → ∃ o, R o cs ∧ bulk o ≤ Rows.uptoBulk x.1)
    {v : Value} (h : DataW.trod enc P w base spare held fuel t [v] = some x) : ∃ xs, InStructs w v k R xs ∧ (xs.map bulk).sum + 1 ≤ Rows.uptoBulk x.1 ∧ xs.length + 1 ≤ Rows.uptoBulk x.1 := by
  rcases inv_slice ht h with ⟨h1, h2⟩ | ⟨a, len, cap, elems, rest, fuel', h1, h2, h3, h4, h5, h6⟩
  · simp only [List.cons.injEq, and_true] at h1
    exact ⟨[], ⟨none, 0, [], h1, Nat.le_refl _, Nat.zero_le _, by simp, Sl.nil _ _, fun i x h => by simp at h⟩, by rw [h2]; simp [Rows.uptoBulk], by rw [h2]; simp [Rows.uptoBulk]⟩
  · simp only [List.cons.injEq, and_true] at h1
    rw [hc] at h6
    obtain ⟨l, g1, g2⟩ := choose_list (fun i (p : α × List Value) => p.2.length = k ∧ (∀ j v, p.2[j]? = some v → w.cell? (a.add (i * k + j)) = some v) ∧ R p.1 p.2 ∧ ∀ el, elems[i]? = some el → bulk p.1 ≤ Rows.uptoBulk el.1) len (fun i hi => by
      obtain ⟨vs, k1, k2⟩ := h6 i elems[i] (by simp [h4, hi])
      obtain ⟨k3, k4⟩ := cells_get k1
      obtain ⟨o, k5, k6⟩ := ho _ _ _ k2
      refine ⟨(o, vs), k3, fun j v hj => ?_, k5, fun el hel => ?_⟩
      · have := k4 j v hj
        rw [← this]
        congr 1
        unfold Addr.add
        by_cases e1 : i * k = 0 <;> by_cases e2 : j = 0 <;> simp [e1, e2, Nat.add_assoc]
      · have : elems[i]? = some elems[i] := by simp [h4, hi]
        rw [this] at hel
        cases hel
        exact k6)
    have hlen : ∀ c ∈ l.map (·.2), c.length = k := by
      intro c hc
      obtain ⟨p, hp, rfl⟩ := List.mem_map.1 hc
      obtain ⟨i, hi⟩ := List.getElem?_of_mem hp
      exact (g2 i p hi).1
    obtain ⟨f1, f2, f3⟩ := flat_part _ hlen
    refine ⟨l.map (·.1), ⟨some a, cap, (l.map (·.2)).flatten, by rw [h1]; simp [g1], by simp [g1]; omega, h3, by rw [f1]; simp, sl_of fun q v hq => ?_, fun i o hi => ?_⟩, ?_, ?_⟩
    · obtain ⟨i, c, j, e1, e2, e3⟩ := f3 q v hq
      rw [List.getElem?_map] at e1
      cases hp : l[i]? with
      | none => rw [hp] at e1; cases e1
      | some p =>
        rw [hp] at e1
        cases e1
        rw [e3]
        exact (g2 i p hp).2.1 j v e2
    · rw [List.getElem?_map] at hi
      cases hp : l[i]? with
      | none => rw [hp] at hi; cases hi
      | some p =>
        rw [hp] at hi
        cases hi
        rw [f2 i p.2 (by rw [List.getElem?_map, hp]; rfl)]
        exact (g2 i p hp).2.2.1
    · have := sum_part bulk (l.map (·.1)) (elems.map (·.1)) (by simp [g1, h4]) (fun i o d ho hd => by
        rw [List.getElem?_map] at ho hd
        cases hp : l[i]? with
        | none => rw [hp] at ho; cases ho
        | some p =>
          rw [hp] at ho; cases ho
          cases he : elems[i]? with
          | none => rw [he] at hd; cases hd
          | some el => rw [he] at hd; cases hd; exact (g2 i p hp).2.2.2 el he)
      rw [h5]
      simp only [Rows.uptoBulk]
      omega
    · have := bulk_len (elems.map (·.1))
      rw [h5]
      simp only [Rows.uptoBulk, List.length_map, g1, ← h4] at this ⊢
      omega
end

section
variable {P : Program} {N : Nat} {Q : Post} {e : Env} {w w0 : World} {ty : TypeId} {K : Value → World → Prop}
theorem setRow_blk {b : Nat} {c c' : Array Value} {E : TypeId} (hb : Blk w b c E) : Blk (w.setRow b c') b c' E ∧ Put w (w.setRow b c') b := by
  unfold Blk at *
  refine ⟨by simp [World.setRow, Array.getElem?_modify, hb], ⟨rfl, rfl, rfl, by simp [World.setRow], fun k hk hn => ?_⟩, by simp [World.setRow]⟩
  have : ¬ b = k := fun h => hn h.symm
  simp [World.setRow, Array.getElem?_modify, this]
/-- An aggregate stored into a block. -/
theorem OpW.storeAgg {t : TypeId} {x y : Operand} {b o n : Nat} {c c' d : Array Value} {E : TypeId} [ht : SizeT P t n] (hx : ev e x = .pointer (some ⟨b, o, none⟩)) (hy : ev e y = .agg d) (hv : d.toList.all (·.oneCell') = true) (hb : Blk w b c E) (hd : d.size = n) (ho : o + n ≤ c.size) (hc : c' = (c.toList.take o ++ d.toList ++ c.toList.drop (o + d.toList.length)).toArray)
    (h : ∀ w', Put w w' b → Blk w' b c' E → K undef w') : OpW P (.store t x y) ty e w K := by
  subst hc
  obtain ⟨h1, h2⟩ := setRow_blk (c' := (c.toList.take o ++ d.toList ++ c.toList.drop (o + d.toList.length)).toArray) hb
  refine OpW.of_unit (s := Instr.storeAt t (ev e x) (ev e y)) rfl ?_ (h _ h2 h1)
  have hs := run_storeCells_at (P := P) b o E d.toList 0 c w hb (by rw [Array.length_toList]; omega) (fun v hv' => List.all_eq_true.1 hv v hv')
  rw [hx, hy]
  rw [Nat.add_zero] at hs
  simp only [Instr.storeAt, Instr.sureAddr, storeVar, Sem.run_bind, ht.h, Result.andThen, Value.cells, hd, hs]
  simp [Sem.run_bind, Result.andThen, hs, pure_bind, Sem.run_pure]
theorem OpW.storeAll {t : TypeId} {x y : Operand} {b n : Nat} {c d : Array Value} {E : TypeId} [ht : SizeT P t n] (hx : ev e x = .pointer (some ⟨b, 0, none⟩)) (hy : ev e y = .agg d) (hv : d.toList.all (·.oneCell') = true) (hb : Blk w b c E) (hd : d.size = n) (ho : c.size = n)
    (h : ∀ w', Put w w' b → Blk w' b d E → K undef w') : OpW P (.store t x y) ty e w K :=
  OpW.storeAgg hx hy hv hb hd (by omega) (by
    rw [List.take_zero, List.nil_append, List.drop_eq_nil_of_le (by simp; omega), List.append_nil, Array.toArray_toList]) h
end
end B
end Go.Proofs.Ytlofcomnhecgfaa
