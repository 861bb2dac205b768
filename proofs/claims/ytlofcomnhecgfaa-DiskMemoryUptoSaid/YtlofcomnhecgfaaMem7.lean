/- Elements of several cells: one cell written, one element's cells. No conditions. -/
import Derived.Test.YtlofcomnhecgfaaMem6
namespace Go.Proofs.Ytlofcomnhecgfaa
namespace B
set_option linter.unusedVariables false
set_option linter.unusedSimpArgs false
/-- Three cells of one element, one of them written. -/
theorem part_set_ne {l : List Value} {k i j c : Nat} {v : Value} (hij : j ≠ i) (hc : c < k) : ((l.set (i * k + c) v).drop (j * k)).take k = (l.drop (j * k)).take k := by
  apply List.ext_getElem?
  intro q
  rw [List.getElem?_take, List.getElem?_take]
  split
  · rename_i hq
    rw [List.getElem?_drop, List.getElem?_drop, List.getElem?_set_ne]
    intro e
    rcases Nat.lt_or_gt_of_ne hij with h | h
    · have := Nat.mul_le_mul_right k (show j + 1 ≤ i from h)
      rw [Nat.add_mul] at this
      omega
    · have := Nat.mul_le_mul_right k (show i + 1 ≤ j from h)
      rw [Nat.add_mul] at this
      omega
  · rfl
theorem part_set_self {l : List Value} {k i c : Nat} {v : Value} : ((l.set (i * k + c) v).drop (i * k)).take k = ((l.drop (i * k)).take k).set c v := by
  apply List.ext_getElem?
  intro q
  rw [List.getElem?_take, List.getElem?_set, List.getElem?_drop, List.getElem?_set, List.length_take, List.length_drop, List.getElem?_take, List.getElem?_drop]
  by_cases hq : q < k
  · simp only [hq, if_true]
    by_cases e : c = q
    · subst e
      simp only [if_true]
      by_cases h : i * k + c < l.length
      · rw [if_pos h, if_pos (by omega)]
      · rw [if_neg h, if_neg (by omega)]
    · rw [if_neg (by omega), if_neg e]
  · simp only [hq, if_false]
    by_cases e : c = q
    · subst e; rw [if_pos rfl, if_neg (by omega)]
    · rw [if_neg e]
theorem part_get {l : List Value} {k i c : Nat} {p : List Value} {v : Value} (h : (l.drop (i * k)).take k = p) (hv : p[c]? = some v) : l[i * k + c]? = some v := by
  rw [← h, List.getElem?_take] at hv
  split at hv
  · rwa [List.getElem?_drop] at hv
  · cases hv
section
variable {P : Program} {e : Env} {w : World} {K : Value → World → Prop} {ty : TypeId}
/-- One cell of a slice of the own is written, whatever an element's size. -/
theorem OpW.storeOwnK {t E k n cap q : Nat} {x y : Operand} {A : Option Addr} {xs : List Value} {Z : Nat → Prop} {v : Value} [ht : SizeT P t 1] (hx : ev e x = .pointer (at_ A q)) (hy : ev e y = v) (hv : v.oneCell' = true) (ho : Own w A E k n cap xs Z) (hq : q < n * k)
    (h : ∀ w', Own w' A E k n cap (xs.set q v) Z → Chg (fun b => ∃ a, A = some a ∧ a.block = b) w w' → w'.heap.size = w.heap.size → K undef w') : OpW P (.store t x y) ty e w K := by
  obtain ⟨hl, h2 | ⟨g, cur, h1, h2, h3, h4, h5, h6, h7⟩⟩ := ho
  · rw [h2.2.1] at hq; omega
  · subst h1
    have hnk : n * k ≤ cap * k := Nat.mul_le_mul_right _ h4
    have hcur : q < cur.size := by omega
    refine OpW.store (b := g) (o := q) (c := cur) (E := E) (v := v) (by rw [hx]; simp [at_]) hy hv h3 (by unfold Nat.blt; exact Nat.ble_eq_true_of_le hcur) rfl ?_
    intro w' hp hb
    refine h w' ⟨by simpa using hl, Or.inr ⟨g, _, rfl, h2, hb, h4, h5, by simpa using h6, ?_⟩⟩ (hp.chg.mono fun k _ hk => ⟨_, rfl, hk.symm⟩) hp.size
    rw [← h7]
    have : ∀ (l : List Value) (n i : Nat), (l.set i v).take n = (l.take n).set i v := by
      intro l
      induction l with
      | nil => intro n i; simp
      | cons u l ih => intro n i; cases n <;> cases i <;> simp [ih]
    simp [this]
end
end B
end Go.Proofs.Ytlofcomnhecgfaa
