/- A literal of one element of several cells; slices by bounds. No conditions. -/
import Derived.Test.YtlofcomnhecgfaaOpen2
namespace Go.Proofs.Ytlofcomnhecgfaa
namespace B
set_option linter.unusedVariables false
set_option linter.unusedSimpArgs false

theorem fold_set (vs : List Value) : ∀ (j : Nat) (cells : Array Value), j + vs.length ≤ cells.size →
    (vs.zipIdx j).foldl (fun (cs : Array Value) (x : Value × Nat) => cs.setIfInBounds (0 + x.2) x.1) cells = (cells.toList.take j ++ vs ++ cells.toList.drop (j + vs.length)).toArray := by
  induction vs with
  | nil => intro j cells h; simp
  | cons v vs ih =>
    intro j cells h
    simp only [List.length_cons] at h
    simp only [List.zipIdx_cons, List.foldl_cons]
    rw [ih (j + 1) _ (by simp; omega)]
    congr 1
    rw [Nat.zero_add, Array.toList_setIfInBounds]
    exact list_seg_step cells.toList j v vs (by simp; omega)
theorem fill_whole {k : Nat} {v : Value} {cells : Array Value} (hv : v.cells.size = k) (hc : cells.size = k) : Instr.fill (fun i => some (i * k, k)) cells [(0, v)] = some v.cells := by
  subst hv
  simp only [Instr.fill, Nat.zero_mul]
  rw [if_neg (by simp; omega)]
  have h := fold_set v.cells.toList 0 cells (by simp; omega)
  rw [← Array.foldl_toList, Array.toList_zipIdx]
  erw [h]
  rw [List.drop_of_length_le (by simp; omega)]
  simp
/-- x[:m:c]. -/
theorem Own.cut {w : World} {A : Option Addr} {E : TypeId} {k n cap : Nat} {xs : List Value} {Z : Nat → Prop} (h : Own w A E k n cap xs Z) (m c : Nat) (hm : m ≤ n) (hc : m ≤ c) (hcap : c ≤ cap) : Own w A E k m c (xs.take (m * k)) Z := by
  obtain ⟨h1, h2⟩ := h
  have hmk : m * k ≤ n * k := Nat.mul_le_mul_right _ hm
  refine ⟨by rw [List.length_take, h1]; exact Nat.min_eq_left hmk, h2.imp ?_ ?_⟩
  · rintro ⟨q1, q2, q3⟩
    exact ⟨q1, by omega, by omega⟩
  · rintro ⟨g, cur, q1, q2, q3, q4, q5, q6, q7⟩
    refine ⟨g, cur, q1, q2, q3, hc, by omega, Nat.le_trans (Nat.mul_le_mul_right _ hcap) q6, ?_⟩
    rw [← q7, List.take_take, Nat.min_eq_left hmk]
/-- Of an empty slice nothing is asked. -/
theorem Sl.keepN {S : Nat → Prop} {w w' : World} {A : Option Addr} {cs : List Value} (h : Sl w A cs) (hc : Chg S w w') (hn : cs ≠ [] → ∀ a, A = some a → ¬ S a.block) : Sl w' A cs := by
  by_cases h0 : cs = []
  · subst h0; exact Sl.nil _ _
  · exact h.keep hc (hn h0)
theorem bvs_ne {l : List UInt8} (h : bvs l ≠ []) : l ≠ [] := fun e => h (by rw [e]; rfl)
theorem ne_bvs {l : List UInt8} (h : l ≠ []) : bvs l ≠ [] := fun e => h (by cases l <;> simp_all [bvs])
/-- What is read lies in what there is. -/
theorem Sl.lt {w : World} {A : Option Addr} {cs : List Value} (h : Sl w A cs) (hn : cs ≠ []) {a : Addr} (ha : A = some a) : a.block < w.heap.size := by
  obtain ⟨v, hv⟩ : ∃ v, cs[0]? = some v := by
    cases cs with
    | nil => exact absurd rfl hn
    | cons v l => exact ⟨v, rfl⟩
  obtain ⟨a', h1, _, h3⟩ := h 0 v hv
  rw [ha] at h1; cases h1
  have h4 := World.block_lt_of_cell? w _ h3
  exact h4
theorem lit1 (vs : List Value) (h : vs.all (·.oneCell') = true) : ∀ v ∈ vs, v.cells = #[v] := by
  intro v hv
  have h1 := List.all_eq_true.1 h v hv
  cases v <;> first | rfl | exact Bool.noConfusion h1
theorem one1 (vs : List Value) (h : vs.all (·.oneCell') = true) : ∀ v ∈ vs, v.oneCell' = true := fun v hv => List.all_eq_true.1 h v hv
section
variable {P : Program} {e : Env} {w : World} {K : Value → World → Prop} {ty : TypeId}
/-- []T{x}: x of several cells. -/
theorem OpW.buildOne {t E k by_ : Nat} {z : Value} {x : Operand} (v : Value) [ht : ElemT P t E k by_ z] [hz : ZeroT P E z] (hx : ev e x = v) (hv : v.cells.size = k) (hk : Nat.ble (1 * k) (2 ^ 24) = true)
    (h : ∀ b w', New w w' b (.cells v.cells E) → K (.slice (some ⟨b, 0, none⟩) 1 1) w') : OpW P (.buildSlice t 1 #[(0, x)]) ty e w K := by
  refine OpW.buildSlice (ps := #[(0, v)]) (cells := v.cells) (by simp [hx]) hk ?_ h
  exact fill_whole hv (by simp)
end
end B
end Go.Proofs.Ytlofcomnhecgfaa
