/- What the arguments are that a row's reading takes: bytes, numbers, structs, slices of these. No conditions. -/
import Derived.Test.YtbcmmamipjbfpaaDoorRows
import Derived.Test.YtbcmmamipjbfpaaDoorInstTryd
import Derived.ProofKit
import Derived.Carry
namespace Go.Proofs.YtbcmmamipjbfpaaDoor
namespace B
set_option linter.unusedVariables false
set_option linter.unusedSimpArgs false

section
variable {H : Type} {enc : TypeId × Value → H} {P : Program} {w : World} {base : Nat} {spare : Nat → Bool} {held : Bool} {fuel t : Nat} {cs : List Value} {x : DataW H × List MemPlace}

theorem cells_get {a : Addr} {n : Nat} {vs : List Value} (h : w.cells? base a n = some vs) : vs.length = n ∧ ∀ i v, vs[i]? = some v → w.cell? (a.add i) = some v := by
  unfold World.cells? at h
  split at h
  · have h1 := mapM_some_length h
    refine ⟨by simpa using h1, fun i v hi => ?_⟩
    obtain ⟨hl, _⟩ := List.getElem?_eq_some_iff.1 hi
    have h2 := mapM_some_get h i i (by rw [List.getElem?_range]; rw [h1] at hl; simpa using hl)
    rw [h2, hi]
  · cases h

theorem inv_int {k : IntKind} (ht : P.underlying t = some (.int k)) (h : DataW.trod enc P w base spare held fuel t cs = some x) : ∃ n, cs = [.int k n] ∧ (Lit.int k n).wf = true ∧ x.1 = .lit (.int k n) := by
  cases fuel with
  | zero => simp [DataW.trod] at h
  | succ fuel =>
    unfold DataW.trod at h
    rw [ht] at h
    split at h <;> simp_all
    rw [← h.2]
theorem inv_bool (ht : P.underlying t = some .bool) (h : DataW.trod enc P w base spare held fuel t cs = some x) : ∃ b, cs = [.bool b] ∧ x.1 = .lit (.bool b) := by
  cases fuel with
  | zero => simp [DataW.trod] at h
  | succ fuel =>
    unfold DataW.trod at h
    rw [ht] at h
    split at h <;> simp_all
    obtain rfl := h
    rfl
theorem inv_string (ht : P.underlying t = some .string) (h : DataW.trod enc P w base spare held fuel t cs = some x) : ∃ l, cs = [.string (bstr l)] ∧ x.1 = .lit (.string l) := by
  cases fuel with
  | zero => simp [DataW.trod] at h
  | succ fuel =>
    unfold DataW.trod at h
    rw [ht] at h
    split at h <;> simp_all
    rename_i s
    obtain ⟨_, rfl⟩ := h
    exact ⟨s.data.toList, by rw [bstr_eta], rfl⟩
theorem inv_slice {E : TypeId} (ht : P.underlying t = some (.slice E)) (h : DataW.trod enc P w base spare held fuel t cs = some x) :
    (cs = [.slice none 0 0] ∧ x.1 = .nil) ∨ ∃ (a : Addr) (len cap : Nat) (elems : List (DataW H × List MemPlace)) (rest : List (DataW H)) (fuel' : Nat), cs = [.slice (some a) len cap] ∧ len ≤ cap ∧ cap ≤ maxLen ∧ elems.length = len ∧ x.1 = .slice (elems.map (·.1)) rest ∧
      ∀ i el, elems[i]? = some el → ∃ vs, w.cells? base (a.add (i * P.cellsOf E)) (P.cellsOf E) = some vs ∧ DataW.trod enc P w base spare held fuel' E vs = some el := by
  cases fuel with
  | zero => simp [DataW.trod] at h
  | succ fuel =>
    unfold DataW.trod at h
    rw [ht] at h
    split at h <;> simp_all
    case h_7 => rw [← h]
    case h_8 =>
      obtain ⟨⟨h1, h2, h3⟩, h4⟩ := h
      rw [Option.bind_eq_some_iff] at h4
      obtain ⟨elems, h5, h6⟩ := h4
      rw [Option.map_eq_some_iff] at h6
      obtain ⟨rest, h7, rfl⟩ := h6
      have hlen := mapM_some_length h5
      refine ⟨_, _, _, ⟨rfl, rfl, rfl⟩, h2, h3, elems, by simpa using hlen, ⟨_, rfl⟩, fuel, fun i a b hi => ?_⟩
      obtain ⟨hl, _⟩ := List.getElem?_eq_some_iff.1 hi
      have h8 := mapM_some_get h5 i i (by rw [List.getElem?_range]; rw [hlen] at hl; simpa using hl)
      rw [hi] at h8
      exact Option.bind_eq_some_iff.1 h8

theorem inv_struct {fs : Array Field} (ht : P.underlying t = some (.struct fs)) (h : DataW.trod enc P w base spare held fuel t cs = some x) :
    cs.length = P.cellsOf t ∧ ∃ (xs : List (DataW H × List MemPlace)) (fuel' : Nat), x.1 = .agg (xs.map (·.1)) ∧ xs.length = fs.size ∧
      ∀ (i : Nat) (f : Field), fs.toList[i]? = some f → ∃ y, xs[i]? = some y ∧ DataW.trod enc P w base spare held fuel' f.type ((cs.drop f.offset).take (P.cellsOf f.type)) = some y := by
  cases fuel with
  | zero => simp [DataW.trod] at h
  | succ fuel =>
    unfold DataW.trod at h
    rw [ht] at h
    split at h <;> simp_all
    obtain ⟨_, xs, h5, rfl⟩ := h
    have hlen := mapM_some_length h5
    refine ⟨xs, rfl, by simpa using hlen, fuel, fun i f hi => ?_⟩
    have h8 := mapM_some_get h5 i f (by simpa using hi)
    obtain ⟨hl, _⟩ := Array.getElem?_eq_some_iff.1 hi
    have hl2 : i < xs.length := by rw [hlen]; simpa using hl
    rw [List.getElem?_eq_getElem hl2] at h8
    exact ⟨_, _, List.getElem?_eq_getElem hl2, h8⟩
theorem inv_array {n : Nat} {E : TypeId} (ht : P.underlying t = some (.array n E)) (h : DataW.trod enc P w base spare held fuel t cs = some x) :
    cs.length = P.cellsOf t ∧ ∃ (xs : List (DataW H × List MemPlace)) (fuel' : Nat), x.1 = .agg (xs.map (·.1)) ∧ xs.length = n ∧
      ∀ i, i < n → ∃ y, xs[i]? = some y ∧ DataW.trod enc P w base spare held fuel' E ((cs.drop (i * P.cellsOf E)).take (P.cellsOf E)) = some y := by
  cases fuel with
  | zero => simp [DataW.trod] at h
  | succ fuel =>
    unfold DataW.trod at h
    rw [ht] at h
    split at h <;> simp_all
    obtain ⟨_, xs, h5, rfl⟩ := h
    have hlen := mapM_some_length h5
    refine ⟨xs, rfl, by simpa using hlen, fuel, fun i hi => ?_⟩
    have h8 := mapM_some_get h5 i i (by rw [List.getElem?_range]; simpa using hi)
    have hl2 : i < xs.length := by rw [hlen]; simpa using hi
    rw [List.getElem?_eq_getElem hl2] at h8
    exact ⟨_, _, List.getElem?_eq_getElem hl2, h8⟩
end

/-! ### Bulk -/
theorem bulk_one {H : Type} (d : DataW H) : 1 ≤ Rows.uptoBulk d := by
  cases d with
  | lit l => cases l <;> simp [Rows.uptoBulk]
  | nil => simp [Rows.uptoBulk]
  | ptr d => simp [Rows.uptoBulk]
  | slice elems spare => simp [Rows.uptoBulk]
  | agg parts => simp [Rows.uptoBulk]
  | iface t d => simp [Rows.uptoBulk]
  | map entries => simp [Rows.uptoBulk]
  | held h => simp [Rows.uptoBulk]
theorem bulk_len {H : Type} (l : List (DataW H)) : l.length ≤ Rows.uptoBulkAll l := by
  induction l with
  | nil => simp [Rows.uptoBulkAll]
  | cons x r ih => have := bulk_one x; simp only [Rows.uptoBulkAll, List.length_cons]; omega
theorem bulk_part {H : Type} {d : DataW H} {l : List (DataW H)} (h : d ∈ l) : Rows.uptoBulk d ≤ Rows.uptoBulkAll l := by
  induction l with
  | nil => cases h
  | cons x r ih =>
    simp only [Rows.uptoBulkAll]
    cases List.mem_cons.1 h with
    | inl e => subst e; omega
    | inr e => have := ih e; omega
theorem bulk_bound {H : Type} {l : List (DataW H)} (hk : Rows.uptoSmall H l = true) : Rows.uptoBulkAll l ≤ 1048576 := by
  unfold Rows.uptoSmall at hk
  exact of_decide_eq_true hk

/-! ### Bytes, bools -/
/-- A slice of bytes that came in. -/
def InBytes (w : World) (v : Value) (l : List UInt8) : Prop := ∃ A cap, v = .slice A l.length cap ∧ l.length ≤ cap ∧ cap ≤ maxLen ∧ Sl w A (bvs l)
theorem InBytes.grow {w w' : World} {v : Value} {l : List UInt8} (h : InBytes w v l) (hg : Grow w w') : InBytes w' v l := by
  obtain ⟨A, cap, h1, h2, h3, h4⟩ := h
  exact ⟨A, cap, h1, h2, h3, h4.grow hg⟩
def InBools (w : World) (v : Value) (l : List Bool) : Prop := ∃ A cap, v = .slice A l.length cap ∧ l.length ≤ cap ∧ cap ≤ maxLen ∧ Sl w A (l.map .bool)
theorem InBools.grow {w w' : World} {v : Value} {l : List Bool} (h : InBools w v l) (hg : Grow w w') : InBools w' v l := by
  obtain ⟨A, cap, h1, h2, h3, h4⟩ := h
  exact ⟨A, cap, h1, h2, h3, h4.grow hg⟩

theorem sl_of {w : World} {a : Addr} {vs : List Value} (h : ∀ i v, vs[i]? = some v → w.cell? (a.add i) = some v) : Sl w (some a) vs := by
  intro i v hi
  obtain ⟨b, o, s⟩ := a
  have h0 : s = none := by
    obtain ⟨hl, _⟩ := List.getElem?_eq_some_iff.1 hi
    have := h 0 vs[0] (by simp)
    unfold Addr.add at this
    rw [if_pos rfl] at this
    unfold World.cell? at this
    cases s with
    | none => rfl
    | some s =>
      split at this
      · simp at this
      · cases this
  subst h0
  exact ⟨_, rfl, rfl, by have := h i v hi; rwa [add_at] at this⟩

section
variable {H : Type} {enc : TypeId × Value → H} {P : Program} {w : World} {base : Nat} {spare : Nat → Bool} {held : Bool} {fuel t : Nat} {cs : List Value} {x : DataW H × List MemPlace}
theorem wf_u8 {n : Int} (h : (Lit.int .u8 n).wf = true) : ∃ u : UInt8, n = (u.toNat : Int) := by
  have h1 : 0 ≤ n ∧ n ≤ 255 := by simpa [Lit.wf, IntKind.min, IntKind.max, IntKind.signed, IntKind.bits] using h
  refine ⟨UInt8.ofNat n.toNat, ?_⟩
  have := ofNat_toNat n.toNat
  omega
theorem wf_u64 {n : Int} (h : (Lit.int .u64 n).wf = true) : ∃ m : Nat, n = (m : Int) ∧ m < 18446744073709551616 := by
  have h1 : 0 ≤ n ∧ n ≤ 18446744073709551615 := by simpa [Lit.wf, IntKind.min, IntKind.max, IntKind.signed, IntKind.bits] using h
  exact ⟨n.toNat, by omega, by omega⟩
theorem wf_i64 {n : Int} (h : (Lit.int .i64 n).wf = true) : -9223372036854775808 ≤ n ∧ n ≤ 9223372036854775807 := by
  simpa [Lit.wf, IntKind.min, IntKind.max, IntKind.signed, IntKind.bits] using h

/-- Elements of one cell each, each of them g of something. -/
theorem list_of {α : Type} (g : α → Value) : ∀ (n : Nat) (f : Nat → Option Value), (∀ i, i < n → ∃ a, f i = some (g a)) → ∃ l : List α, l.length = n ∧ ∀ i v, (l.map g)[i]? = some v → f i = some v
  | 0, f, _ => ⟨[], rfl, fun i v h => by simp at h⟩
  | n + 1, f, h => by
    obtain ⟨l, h1, h2⟩ := list_of g n f (fun i hi => h i (by omega))
    obtain ⟨a, ha⟩ := h n (by omega)
    refine ⟨l ++ [a], by simp [h1], fun i v hi => ?_⟩
    rw [List.map_append, List.getElem?_append] at hi
    split at hi
    · exact h2 i v hi
    · rename_i hlt
      rw [List.length_map, h1] at hlt hi
      have : i = n := by
        cases hq : i - n with
        | zero => omega
        | succ m => rw [hq] at hi; simp at hi
      subst this
      rw [Nat.sub_self] at hi
      simp at hi
      rw [ha, hi]

theorem open_bytes {E : TypeId} (ht : P.underlying t = some (.slice E)) (he : P.underlying E = some (.int .u8)) (hc : P.cellsOf E = 1) {v : Value} (h : DataW.trod enc P w base spare held fuel t [v] = some x) : ∃ l, InBytes w v l ∧ l.length + 1 ≤ Rows.uptoBulk x.1 := by
  rcases inv_slice ht h with ⟨h1, h2⟩ | ⟨a, len, cap, elems, rest, fuel', h1, h2, h3, h4, h5, h6⟩
  · simp only [List.cons.injEq, and_true] at h1
    exact ⟨[], ⟨none, 0, h1, Nat.le_refl _, Nat.zero_le _, Sl.nil _ _⟩, by rw [h2]; simp [Rows.uptoBulk]⟩
  · simp only [List.cons.injEq, and_true] at h1
    obtain ⟨l, g1, g2⟩ := list_of bv len (fun i => w.cell? (a.add i)) (fun i hi => by
      obtain ⟨vs, k1, k2⟩ := h6 i elems[i] (by simp [h4, hi])
      rw [hc] at k1
      obtain ⟨k3, k4⟩ := cells_get k1
      obtain ⟨n, k5, k6, _⟩ := inv_int he k2
      obtain ⟨u, rfl⟩ := wf_u8 k6
      have := k4 0 _ (by rw [k5]; rfl)
      refine ⟨u, ?_⟩
      rw [Nat.mul_one] at this
      simpa [Addr.add, bv] using this)
    refine ⟨l, ⟨some a, cap, by rw [h1, g1], by omega, h3, sl_of g2⟩, ?_⟩
    have := bulk_len (elems.map (·.1))
    rw [h5, g1, ← h4]
    simp only [Rows.uptoBulk, List.length_map] at this ⊢
    omega
theorem open_bools {E : TypeId} (ht : P.underlying t = some (.slice E)) (he : P.underlying E = some .bool) (hc : P.cellsOf E = 1) {v : Value} (h : DataW.trod enc P w base spare held fuel t [v] = some x) : ∃ l, InBools w v l ∧ l.length + 1 ≤ Rows.uptoBulk x.1 := by
  rcases inv_slice ht h with ⟨h1, h2⟩ | ⟨a, len, cap, elems, rest, fuel', h1, h2, h3, h4, h5, h6⟩
  · simp only [List.cons.injEq, and_true] at h1
    exact ⟨[], ⟨none, 0, h1, Nat.le_refl _, Nat.zero_le _, Sl.nil _ _⟩, by rw [h2]; simp [Rows.uptoBulk]⟩
  · simp only [List.cons.injEq, and_true] at h1
    obtain ⟨l, g1, g2⟩ := list_of Value.bool len (fun i => w.cell? (a.add i)) (fun i hi => by
      obtain ⟨vs, k1, k2⟩ := h6 i elems[i] (by simp [h4, hi])
      rw [hc] at k1
      obtain ⟨k3, k4⟩ := cells_get k1
      obtain ⟨b, k5, _⟩ := inv_bool he k2
      have := k4 0 _ (by rw [k5]; rfl)
      refine ⟨b, ?_⟩
      rw [Nat.mul_one] at this
      simpa [Addr.add] using this)
    refine ⟨l, ⟨some a, cap, by rw [h1, g1], by omega, h3, sl_of g2⟩, ?_⟩
    have := bulk_len (elems.map (·.1))
    rw [h5, g1, ← h4]
    simp only [Rows.uptoBulk, List.length_map] at this ⊢
    omega
end
end B
end Go.Proofs.YtbcmmamipjbfpaaDoor
