/- Rules of the walk: append, make, slices of slices, texts and bytes. No conditions. -/
import Derived.Test.YtbcmmamipjbfpaaDoorMem
namespace Go.Proofs.YtbcmmamipjbfpaaDoor
namespace B
set_option linter.unusedVariables false
set_option linter.unusedSimpArgs false

section
variable {P : Program} {e : Env} {w : World} {K : Value → World → Prop} {ty : TypeId}

/-! ### append -/
theorem Sl.read {w : World} {A : Option Addr} {cs : List Value} (h : Sl w A cs) {a : Addr} (ha : A = some a) : ∀ j v, cs[j]? = some v → w.cell? (a.add j) = some v := by
  intro j v hj
  obtain ⟨a', h1, h2, h3⟩ := h j v hj
  rw [ha] at h1; cases h1
  obtain ⟨b, o, s⟩ := a
  simp only at h2
  subst h2
  rw [add_at]
  exact h3

theorem run_app_none {t E k by_ : Nat} {z : Value} (ht : ElemT P t E k by_ z) (A B : Option Addr) (n cap c : Nat) (h : n ≤ cap) : (Builtin.append_ #[t, t] ty #[.slice A n cap, .slice B 0 c]).run P w = .ok (.slice A n cap) w := by
  obtain ⟨i, h1, h2, h3, h4, h5, h6⟩ := ht.i
  cases A <;> cases B <;> simp [Builtin.append_, run_under ht.u, sizeOf, typeInfo, h1, Builtin.lenOf, h, Builtin.firstCells, storeCells, loadCells, loadCellsFrom, Sem.run_bind]

theorem run_app {t E k by_ : Nat} {z : Value} (ht : ElemT P t E k by_ z) {A B : Option Addr} {n cap m c : Nat} {xs ys : List Value} {Z : Nat → Prop} (ho : Own w A E k n cap xs Z) (hs : Sl w B ys) (hl : ys.length = m * k) (h1 : ∀ u ∈ ys, u.oneCell' = true)
    (hroom : (n + m) * by_ ≤ 140737488355328) (hlen : n + m ≤ 140737488355328) :
    ∃ A' cap' w', (Builtin.append_ #[t, t] ty #[.slice A n cap, .slice B m c]).run P w = .ok (.slice A' (n + m) cap') w' ∧
      Own w' A' E k (n + m) cap' (xs ++ ys) (fun b => (∃ a, A = some a ∧ a.block = b) ∨ w.heap.size ≤ b) ∧ Chg (fun b => ∃ a, A = some a ∧ a.block = b) w w' ∧ (A' = none → A = none ∧ m = 0) := by
  by_cases hm : m = 0
  · subst hm
    have hy : ys = [] := List.eq_nil_of_length_eq_zero (by simpa using hl)
    subst hy
    refine ⟨A, cap, w, run_app_none ht A B n cap c ho.le, ?_, Chg.refl _ _, fun h => ⟨h, rfl⟩⟩
    rw [List.append_nil]
    exact ho.zone fun a ha => Or.inl ⟨a, ha, rfl⟩
  obtain ⟨i, g1, g2, g3, g4, g5, g6⟩ := ht.i
  have hB : ∃ b, B = some b := by
    have : 0 < ys.length := by rw [hl]; exact Nat.mul_pos (by omega) (g3 ▸ g3 ▸ g6)
    obtain ⟨a, h2, _⟩ := hs 0 ys[0] (by simp)
    exact ⟨a, h2⟩
  obtain ⟨b, rfl⟩ := hB
  have hr := hs.read rfl
  subst g3
  subst g4
  have hmax : n + m ≤ maxLen := by unfold maxLen; omega
  have hlx : (xs ++ ys).length = (n + m) * i.size := by rw [List.length_append, ho.1, hl, Nat.add_mul]
  have grown : ∀ (old : Nat), Own (w.drew.alloc (.cells (xs.toArray ++ ys.toArray ++ Builtin.zeroCells z.cells (grownCap w (n + m) old E - (n + m))) E)) (some ⟨w.heap.size, 0, none⟩) E i.size (n + m) (grownCap w (n + m) old E) (xs ++ ys) (fun b => (∃ a, A = some a ∧ a.block = b) ∨ w.heap.size ≤ b) ∧
      Chg (fun b => ∃ a, A = some a ∧ a.block = b) w (w.drew.alloc (.cells (xs.toArray ++ ys.toArray ++ Builtin.zeroCells z.cells (grownCap w (n + m) old E - (n + m))) E)) := by
    intro old
    refine ⟨⟨hlx, .inr ⟨w.heap.size, _, rfl, Or.inr (Nat.le_refl _), heap_alloc_new w.drew _, grownCap_ge w (n + m) old E, grownCap_le_maxLen w (n + m) old E hmax, ?_, ?_⟩⟩, ⟨rfl, rfl, rfl, by simp, fun k hk _ => heap_alloc_old w.drew _ k hk⟩⟩
    · have hge := grownCap_ge w (n + m) old E
      simp only [Array.size_append, List.size_toArray, size_zeroCells, g5, ho.1, hl, ← Nat.add_mul]
      exact Nat.mul_le_mul_right _ (by omega)
    · simp only [Array.toList_append, List.append_assoc]
      rw [← List.append_assoc, ← hlx]
      exact List.take_left
  rcases ho.2 with ⟨rfl, rfl, rfl⟩ | ⟨g, cur, rfl, hz, hg, hnc, hcm, hcs, htake⟩
  · have hx : xs = [] := List.eq_nil_of_length_eq_zero (by simpa using ho.1)
    subst hx
    have hrun := run_append_nil (P := P) w t ty E i z ht.u g1 g2 b m c ys hl hr (by omega) (by omega) (by simp only [Nat.zero_add] at hroom; omega)
    have hgr := grown 0
    simp only [Nat.zero_add, List.nil_append, Array.empty_append] at hgr ⊢
    exact ⟨_, _, _, hrun, hgr.1, hgr.2, fun h => by cases h⟩
  · by_cases hroom' : n + m ≤ cap
    · have hfit : n * i.size + ys.length ≤ cur.size := by
        rw [hl, ← Nat.add_mul]
        exact Nat.le_trans (Nat.mul_le_mul_right _ hroom') hcs
      have hrun := run_append_room (P := P) w t ty E i ht.u g1 g n cap cur hg b m c ys hl hr h1 hroom' hfit
      refine ⟨_, _, _, hrun, ⟨hlx, .inr ⟨g, _, rfl, Or.inl ⟨_, rfl, rfl⟩, setRow_heap w g cur _ E _ hg, hroom', hcm, ?_, ?_⟩⟩, ⟨rfl, rfl, rfl, by simp, fun k _ hk => setRow_other w g k _ (fun e => hk ⟨_, rfl, e.symm⟩)⟩, fun h => by cases h⟩
      · simp only [List.size_toArray, List.length_append, List.length_take, List.length_drop, Array.length_toList]
        omega
      · rw [htake, ← hlx]
        exact List.take_left
    · have hrun := run_append_grow (P := P) w t ty E i z ht.u g1 g2 ⟨g, 0, none⟩ n cap xs ho.1 (ho.sl.read rfl) b m c ys hl hr (by omega) (by omega) (growslice_fits (by omega) hroom)
      exact ⟨_, _, _, hrun, (grown cap).1, (grown cap).2, fun h => by cases h⟩

theorem OpW.append {t t' E k by_ n cap m c : Nat} {z : Value} {x y : Operand} {A B : Option Addr} {xs ys : List Value} {Z : Nat → Prop} [ht : ElemT P t E k by_ z] (hx : ev e x = .slice A n cap) (hy : ev e y = .slice B m c) (htt : t' = t) (ho : Own w A E k n cap xs Z) (hs : Sl w B ys) (hl : ys.length = m * k) (h1 : ∀ u ∈ ys, u.oneCell' = true)
    (hroom : (n + m) * by_ ≤ 140737488355328 ∧ n + m ≤ 140737488355328)
    (h : ∀ A' cap' w', Own w' A' E k (n + m) cap' (xs ++ ys) (fun b => (∃ a, A = some a ∧ a.block = b) ∨ w.heap.size ≤ b) → Chg (fun b => ∃ a, A = some a ∧ a.block = b) w w' → (A' = none → A = none ∧ m = 0) → K (.slice A' (n + m) cap') w') :
    OpW P (.call ⟨.builtin .append, #[x, y], #[t, t']⟩) ty e w K := by
  subst htt
  obtain ⟨A', cap', w', hr, h2, h3, h4⟩ := run_app (ty := ty) ht ho hs hl h1 hroom.1 hroom.2
  exact OpW.builtin (s := Builtin.append_ #[t', t'] ty #[ev e x, ev e y]) (fun _ => by simp [Go.builtin]) (by rw [hx, hy]; exact hr) (h A' cap' w' h2 h3 h4)

/-- append(nil, make([]T, m)...): what slices.Grow does. -/
theorem OpW.appendMake {t t' E k by_ : Nat} {z : Value} {x y : Operand} {m : Nat} [ht : ElemT P t E k by_ z] [hi : IntT P t' .i64] (hx : ev e x = .slice none 0 0) (hy : ev e y = .int .i64 (m : Int)) (h0 : 0 < m) (hroom : m * by_ ≤ 140737488355328 ∧ m ≤ 140737488355328)
    (h : ∀ b cap' cur w', m ≤ cap' → cap' ≤ maxLen → cur.size = cap' * k → New w w' b (.cells cur E) → K (.slice (some ⟨b, 0, none⟩) m cap') w') :
    OpW P (.call ⟨.builtin .append, #[x, y], #[t, t']⟩) ty e w K := by
  obtain ⟨i, g1, g2, g3, g4, g5, g6⟩ := ht.i
  subst g3
  subst g4
  have hw : IntKind.i64.wrap (m : Int) = (m : Int) := wrap_i64 (by omega) (by omega)
  have e1 : ¬ ((m : Int) < 0) := by omega
  have e2 : ¬ ((m : Int) * (i.bytes : Int) > 2 ^ 48) := by
    have := hroom.1
    have h2 : ((m * i.bytes : Nat) : Int) ≤ 140737488355328 := by omega
    rw [Int.natCast_mul] at h2
    omega
  have e3 : ¬ (m ≤ 0) := by omega
  have e4 : ¬ ((m : Int) > IntKind.i64.max) := by simp [IntKind.max, IntKind.signed, IntKind.bits]; omega
  have e5 : ¬ (Builtin.nextslicecap m 0 * i.bytes > 2 ^ 48) := by
    rw [nextslicecap_zero h0]
    have := hroom.1
    omega
  have e6 : ¬ (m * i.size = 0) := by
    intro h
    rcases Nat.mul_eq_zero.1 h with h | h <;> omega
  have hmax : m ≤ maxLen := by unfold maxLen; omega
  have hge := grownCap_ge w m 0 E
  refine OpW.builtin (s := Builtin.append_ #[t, t'] ty #[ev e x, ev e y]) (fun _ => by simp [Go.builtin]) (v := .slice (some ⟨w.heap.size, 0, none⟩) m (grownCap w m 0 E)) (w' := w.drew.alloc (.cells (Builtin.zeroCells z.cells m ++ Builtin.zeroCells z.cells (grownCap w m 0 E - m)) E)) ?_ ?_
  · rw [hx, hy]
    simp only [Builtin.append_]
    simp [run_under ht.u, Sem.run_bind, hi.h, sizeOf, typeInfo, g1, asInt, asIntOf, hw, zeroValue, g2, Builtin.firstCells, Question.forced, newRow, grownCap]
    have f1 : ¬ ((m : Int) < 0) := e1
    have f2 : ¬ (281474976710656 < (m : Int) * (i.bytes : Int)) := fun h => e2 (by simpa using h)
    have f3 : ¬ (m = 0) := by omega
    have f4 : ¬ (9223372036854775807 < (m : Int)) := by omega
    have f5 : ¬ (281474976710656 < Builtin.nextslicecap m 0 * i.bytes) := fun h => e5 (by simpa using h)
    simp only [f1, f2, f3, f4, f5, e6, if_false]
  · exact h _ _ _ _ hge (grownCap_le_maxLen w m 0 E hmax) (by simp only [Array.size_append, size_zeroCells, g5, ← Nat.add_mul]; congr 1; omega) ⟨⟨rfl, rfl, rfl, by simp, fun k hk _ => heap_alloc_old w.drew _ k hk⟩, heap_alloc_new w.drew _, Nat.le_refl _⟩
end
end B
end Go.Proofs.YtbcmmamipjbfpaaDoor
