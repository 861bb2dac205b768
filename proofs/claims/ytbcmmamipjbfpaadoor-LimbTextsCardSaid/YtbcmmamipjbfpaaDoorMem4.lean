/- Small laws on what is new, and on slices of bytes of the call's own. No conditions. -/
import Derived.Test.YtbcmmamipjbfpaaDoorMem3
namespace Go.Proofs.YtbcmmamipjbfpaaDoor
namespace B
set_option linter.unusedVariables false

theorem Grow.chgNew {S : Nat → Prop} {a b c : World} (h : Grow a b) (k : Chg S b c) (hn : ∀ i, i < a.heap.size → ¬ S i) : Grow a c :=
  Chg.trans h k fun i hi hs => (hn i hi hs).elim
theorem Own.of_new {w w' : World} {b : Nat} {cur : Array Value} {E k n cap : Nat} {xs : List Value} (h : New w w' b (.cells cur E)) (h1 : n ≤ cap) (h2 : cap ≤ maxLen) (h3 : cap * k ≤ cur.size) (h4 : xs.length = n * k) (h5 : cur.toList.take (n * k) = xs) : Own w' (some ⟨b, 0, none⟩) E k n cap xs (fresh w) :=
  ⟨h4, .inr ⟨b, cur, rfl, h.fresh, h.at_, h1, h2, h3, h5⟩⟩
theorem Own.empty {w w' : World} {b : Nat} {E k : Nat} (h : New w w' b (.cells #[] E)) : Own w' (some ⟨b, 0, none⟩) E k 0 0 [] (fresh w) :=
  Own.of_new h (Nat.le_refl _) (Nat.zero_le _) (by simp) (by simp) (by simp)
/-- A whole literal. -/
theorem Own.lit {w w' : World} {b : Nat} {cur : Array Value} {E n : Nat} {xs : List Value} (h : New w w' b (.cells cur E)) (h1 : cur.toList = xs) (h2 : xs.length = n) (h3 : n ≤ maxLen) : Own w' (some ⟨b, 0, none⟩) E 1 n n xs (fresh w) := by
  have hs : cur.size = n := by rw [← h2, ← h1]; simp
  refine Own.of_new h (Nat.le_refl _) h3 (by omega) (by omega) ?_
  rw [h1, Nat.mul_one, ← h2, List.take_length]
theorem fresh_mono {a b : World} (h : Grow a b) (g : Nat) (hg : fresh b g) : fresh a g := Nat.le_trans h.size hg
theorem fresh_mono' {S : Nat → Prop} {a b : World} (h : Chg S a b) (g : Nat) (hg : fresh b g) : fresh a g := Nat.le_trans h.size hg

/-- The zone of what append hands back. -/
def appZone (w : World) (A : Option Addr) : Nat → Prop := fun b => (∃ a, A = some a ∧ a.block = b) ∨ w.heap.size ≤ b
theorem appZone_fresh {w w1 : World} {A : Option Addr} (hA : ∀ a, A = some a → w.heap.size ≤ a.block) (h : w.heap.size ≤ w1.heap.size) (b : Nat) (hb : (∃ a, A = some a ∧ a.block = b) ∨ w1.heap.size ≤ b) : fresh w b := by
  rcases hb with ⟨a, h1, rfl⟩ | h1
  · exact hA a h1
  · exact Nat.le_trans h h1

/-- A slice of bytes of the call's own. -/
def NewBytes (w w' : World) (v : Value) (l : List UInt8) : Prop := ∃ A cap, v = .slice A l.length cap ∧ Own w' A 5 1 l.length cap (bvs l) (fresh w) ∧ Grow w w'
theorem NewBytes.keep {w w1 w2 : World} {v : Value} {l : List UInt8} (h : NewBytes w w1 v l) (k : Grow w1 w2) : NewBytes w w2 v l := by
  obtain ⟨A, cap, h1, h2, h3⟩ := h
  exact ⟨A, cap, h1, h2.grow k, h3.then k⟩
theorem NewBytes.from_ {w0 w w' : World} {v : Value} {l : List UInt8} (h : NewBytes w w' v l) (k : Grow w0 w) : NewBytes w0 w' v l := by
  obtain ⟨A, cap, h1, h2, h3⟩ := h
  exact ⟨A, cap, h1, h2.mono fun g hg => fresh_mono k g hg, k.then h3⟩
theorem spot_own {w : World} {A : Option Addr} {E k n cap : Nat} {xs : List Value} {Z : Nat → Prop} (h : Own w A E k n cap xs Z) : ∀ a, A = some a → a.spot = none := by
  intro a ha
  rcases h.2 with ⟨h1, _⟩ | ⟨g, cur, h1, _⟩ <;> rw [h1] at ha <;> cases ha
  rfl
theorem sl_ne {w : World} {A : Option Addr} {cs : List Value} (h : Sl w A cs) {i : Nat} (hi : i < cs.length) : A ≠ none := by
  obtain ⟨a, h1, _⟩ := h i cs[i] (by simp [hi])
  rw [h1]; simp
theorem sl_sp {w : World} {A : Option Addr} {cs : List Value} (h : Sl w A cs) {i : Nat} (hi : i < cs.length) : ∀ a, A = some a → a.spot = none := by
  obtain ⟨a, h1, h2, _⟩ := h i cs[i] (by simp [hi])
  rw [h1]; intro a' ha; cases ha; exact h2
theorem bvs_cells (l : List UInt8) : ∀ v ∈ bvs l, v.cells = #[v] := by
  intro v hv
  simp only [bvs, List.mem_map] at hv
  obtain ⟨x, _, rfl⟩ := hv
  rfl
theorem bvs_len1 (l : List UInt8) : (bvs l).length = l.length * 1 := by simp [bvs]

/-! ### Literals whose elements are single cells -/
theorem fill_one (vs : List Value) (h1 : ∀ v ∈ vs, v.cells = #[v]) : ∀ (j : Nat) (cells : Array Value), j + vs.length ≤ cells.size →
    Instr.fill (fun i => some (i * 1, 1)) cells ((vs.zipIdx j).map fun p => (p.2, p.1)) = some (cells.toList.take j ++ vs ++ cells.toList.drop (j + vs.length)).toArray := by
  induction vs with
  | nil => intro j cells h; simp [Instr.fill]
  | cons v vs ih =>
    intro j cells h
    have hv := h1 v (by simp)
    simp only [List.zipIdx_cons, List.map_cons, Instr.fill, hv, Nat.mul_one]
    simp only [List.length_cons] at h
    rw [if_neg (by simp; omega)]
    have hset : (#[v].zipIdx.foldl (fun cs (x : Value × Nat) => cs.setIfInBounds (j + x.2) x.1) cells) = cells.setIfInBounds j v := by simp
    have ih' := ih (fun u hu => h1 u (by simp [hu])) (j + 1) (cells.setIfInBounds j v) (by simp; omega)
    simp only [Nat.mul_one] at ih'
    erw [hset, ih']
    congr 1
    apply congrArg
    rw [Array.toList_setIfInBounds]
    exact list_seg_step cells.toList j v vs (by simp; omega)

section
variable {P : Program} {e : Env} {w : World} {K : Value → World → Prop} {ty : TypeId}
/-- A literal of single cells, all of them given. -/
theorem OpW.buildLit {t E by_ len : Nat} {z : Value} {parts : Array (Nat × Operand)} (vs : List Value) [ht : ElemT P t E 1 by_ z] [hz : ZeroT P E z] (hp : parts.toList.map (fun p => (p.1, ev e p.2)) = (vs.zipIdx 0).map fun p => (p.2, p.1)) (hlen : vs.length = len) (hle : Nat.ble (len * 1) (2 ^ 24) = true) (h1 : ∀ v ∈ vs, v.cells = #[v])
    (h : ∀ b w', New w w' b (.cells vs.toArray E) → K (.slice (some ⟨b, 0, none⟩) len len) w') : OpW P (.buildSlice t len parts) ty e w K := by
  refine OpW.buildSlice (ps := (parts.map fun p => (p.1, ev e p.2))) rfl hle ?_ h
  have : (parts.map fun p => (p.1, ev e p.2)).toList = (vs.zipIdx 0).map fun p => (p.2, p.1) := by rw [Array.toList_map]; exact hp
  rw [this, fill_one vs h1 0 _ (by simp; omega)]
  simp only [List.take_zero, List.nil_append, Nat.zero_add, hlen]
  rw [List.drop_of_length_le (by simp)]
  simp
end
end B
end Go.Proofs.YtbcmmamipjbfpaaDoor
