/- A literal of one element of several cells; slices by bounds. No conditions. -/
import Derived.Test.YtlofcomnhecgfaaOpen2
namespace Go.Proofs.Ytlofcomnhecgfaa
namespace B
set_option linter.unusedVariables false
set_option linter.unusedSimpArgs false

theorem fold_set (vs : List Value) : ∀ (j : Nat) (cells : Array Value), j + vs.length ≤ cells.size →
    (vs.zipIdx j).foldl (fun (cs : Array Value) (x : Value × Nat) => cs.setIfInBounds (0 + x.2) x.1) cells = (cells.toList.take j ++ vs ++ cells.toList.drop (j + vs.length)).toArray := by
  induction vs with
  | nil => intro j cells h; simp
  | cons v vs ih =>
    intro j cells h
    simp only [List.length_cons] at h
    simp only [List.zipIdx_cons, List.foldl_cons]
    rw [ih (j + 1) _ (by simp; omega)]
    congr 1
    rw [Nat.zero_add, Array.toList_setIfInBounds]
    exact list_seg_step cells.toList j v vs (by simp; omega)
theorem fill_whole {k : Nat} {v : Value} {cells : Array Value} (hv : v.cells.size = k) (hc : cells.size = k) : Instr.fill (fun i => some (i * k, k)) cells [(0, v)] = some v.cells := by
  subst hv
  simp only [Instr.fill, Nat.zero_mul]
  rw [if_neg (by simp; omega)]
  have h := fold_set v.cells.toList 0 cells (by simp; omega)
  rw [← Array.foldl_toList, Array.toList_zipIdx]
  erw [h]
  rw [List.drop_of_length_le (by simp; omega)]
  simp
/-- x[:m:c]. -/
theorem Own.cut {w : World} {A : Option Addr} {E : TypeId} {k n cap : Nat} {xs : List Value} {Z : Nat → Prop} (h : Own w A E k n cap xs Z) (m c : Nat) (hm : m ≤ n) (hc : m ≤ c) (hcap : c ≤ cap) : Own w A E k m c (xs.take (m * k)) Z := by
  obtain ⟨h1, h2⟩ := h
  have hmk : m * k ≤ n * k := Nat.mul_le_mul_right _ hm
  refine ⟨by rw [List.length_take, h1]; exact Nat.min_eq_left hmk, h2.imp ?_ ?_⟩
  · rintro ⟨q1, q2, q3⟩
    exact ⟨q1, by omega, by omega⟩
  · rintro ⟨g, cur, q1, q2, q3, q4, q5, q6, q7⟩
    refine ⟨g, cur, q1, q2, q3, hc, by omega, Nat.le_trans (Nat.mul_le_mul_right _ hcap) q6, ?_⟩
    rw [← q7, List.take_take, Nat.min_eq_left hmk]
/-- Of an empty slice nothing is asked. -/
theorem Sl.keepN {S : Nat → Prop} {w w' : World} {A : Option Addr} {cs : List Value} (h : Sl w A cs) (hc : Chg S w w') (hn : cs ≠ [] → ∀ a, A = some a → ¬ S a.block) : Sl w' A cs := by
  by_cases h0 : cs = []
  · subst h0; exact Sl.nil _ _
  · exact h.keep hc (hn h0)
theorem bvs_ne {l : List UInt8} (h : bvs l ≠ []) : l ≠ [] := fun e => h (by rw [e]; rfl)
theorem ne_bvs {l : List UInt8} (h : l ≠ []) : bvs l ≠ [] := fun e => h (by cases l <;> simp_all [bvs])
/-- What is read lies in what there is. -/
theorem Sl.lt {w : World} {A : Option Addr} {cs : List Value} (h : Sl w A cs) (hn : cs ≠ []) {a : Addr} (ha : A = some a) : a.block < w.heap.size := by
  obtain ⟨v, hv⟩ : ∃ v, cs[0]? = some v := by
    cases cs with
    | nil => exact absurd rfl hn
    | cons v l => exact ⟨v, rfl⟩
  obtain ⟨a', h1, _, h3⟩ := h 0 v hv
  rw [ha] at h1; cases h1
  have h4 := World.block_lt_of_cell? w _ h3
  exact h4
/-- Three cells of one element, one of them written. -/
theorem part_set_ne {l : List Value} {k i j c : Nat} {v : Value} (hij : j ≠ i) (hc : c < k) : ((l.set (i * k + c) v).drop (j * k)).take k = (l.drop (j * k)).take k := by
  apply List.ext_getElem?
  intro q
  rw [List.getElem?_take, List.getElem?_take]
  split
  · rename_i hq
    rw [List.getElem?_drop, List.getElem?_drop, List.getElem?_set_ne]
    intro e
    rcases Nat.lt_or_gt_of_ne hij with h | h
    · have := Nat.mul_le_mul_right k (show j + 1 ≤ i from h)
      rw [Nat.add_mul] at this
      omega
    · have := Nat.mul_le_mul_right k (show i + 1 ≤ j from h)
      rw [Nat.add_mul] at this
      omega
  · rfl
theorem part_set_self {l : List Value} {k i c : Nat} {v : Value} : ((l.set (i * k + c) v).drop (i * k)).take k = ((l.drop (i * k)).take k).set c v := by
  apply List.ext_getElem?
  intro q
  rw [List.getElem?_take, List.getElem?_set, List.getElem?_drop, List.getElem?_set, List.length_take, List.length_drop, List.getElem?_take, List.getElem?_drop]
  by_cases hq : q < k
  · simp only [hq, if_true]
    by_cases e : c = q
    · subst e
      simp only [if_true]
      by_cases h : i * k + c < l.length
      · rw [if_pos h, if_pos (by omega)]
      · rw [if_neg h, if_neg (by omega)]
    · rw [if_neg (by omega), if_neg e]
  · simp only [hq, if_false]
    by_cases e : c = q
    · subst e; rw [if_pos rfl, if_neg (by omega)]
    · rw [if_neg e]
theorem part_get {l : List Value} {k i c : Nat} {p : List Value} {v : Value} (h : (l.drop (i * k)).take k = p) (hv : p[c]? = some v) : l[i * k + c]? = some v := by
  rw [← h, List.getElem?_take] at hv
  split at hv
  · rwa [List.getElem?_drop] at hv
  · cases hv
theorem lit1 (vs : List Value) (h : vs.all (·.oneCell') = true) : ∀ v ∈ vs, v.cells = #[v] := by
  intro v hv
  have h1 := List.all_eq_true.1 h v hv
  cases v <;> first | rfl | exact Bool.noConfusion h1
theorem one1 (vs : List Value) (h : vs.all (·.oneCell') = true) : ∀ v ∈ vs, v.oneCell' = true := fun v hv => List.all_eq_true.1 h v hv
section
variable {P : Program} {e : Env} {w : World} {K : Value → World → Prop} {ty : TypeId}
/-- One cell of a slice of the own is written, whatever an element's size. -/
theorem OpW.storeOwnK {t E k n cap q : Nat} {x y : Operand} {A : Option Addr} {xs : List Value} {Z : Nat → Prop} {v : Value} [ht : SizeT P t 1] (hx : ev e x = .pointer (at_ A q)) (hy : ev e y = v) (hv : v.oneCell' = true) (ho : Own w A E k n cap xs Z) (hq : q < n * k)
    (h : ∀ w', Own w' A E k n cap (xs.set q v) Z → Chg (fun b => ∃ a, A = some a ∧ a.block = b) w w' → w'.heap.size = w.heap.size → K undef w') : OpW P (.store t x y) ty e w K := by
  obtain ⟨hl, h2 | ⟨g, cur, h1, h2, h3, h4, h5, h6, h7⟩⟩ := ho
  · rw [h2.2.1] at hq; omega
  · subst h1
    have hnk : n * k ≤ cap * k := Nat.mul_le_mul_right _ h4
    have hcur : q < cur.size := by omega
    refine OpW.store (b := g) (o := q) (c := cur) (E := E) (v := v) (by rw [hx]; simp [at_]) hy hv h3 (by unfold Nat.blt; exact Nat.ble_eq_true_of_le hcur) rfl ?_
    intro w' hp hb
    refine h w' ⟨by simpa using hl, Or.inr ⟨g, _, rfl, h2, hb, h4, h5, by simpa using h6, ?_⟩⟩ (hp.chg.mono fun k _ hk => ⟨_, rfl, hk.symm⟩) hp.size
    rw [← h7]
    have : ∀ (l : List Value) (n i : Nat), (l.set i v).take n = (l.take n).set i v := by
      intro l
      induction l with
      | nil => intro n i; simp
      | cons u l ih => intro n i; cases n <;> cases i <;> simp [ih]
    simp [this]
/-- []T{x}: x of several cells. -/
theorem OpW.buildOne {t E k by_ : Nat} {z : Value} {x : Operand} (v : Value) [ht : ElemT P t E k by_ z] [hz : ZeroT P E z] (hx : ev e x = v) (hv : v.cells.size = k) (hk : Nat.ble (1 * k) (2 ^ 24) = true)
    (h : ∀ b w', New w w' b (.cells v.cells E) → K (.slice (some ⟨b, 0, none⟩) 1 1) w') : OpW P (.buildSlice t 1 #[(0, x)]) ty e w K := by
  refine OpW.buildSlice (ps := #[(0, v)]) (cells := v.cells) (by simp [hx]) hk ?_ h
  exact fill_whole hv (by simp)
end
end B
end Go.Proofs.Ytlofcomnhecgfaa
