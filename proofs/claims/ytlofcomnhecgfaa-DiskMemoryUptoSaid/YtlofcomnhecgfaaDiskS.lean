/- What came in, as files; sums. No conditions. -/
import Derived.Test.YtlofcomnhecgfaaDiskR
namespace Go.Proofs.Ytlofcomnhecgfaa
namespace B
set_option linter.unusedVariables false

theorem files_in {W : World} {v : Value} {xs : List (List UInt8 × List UInt8)} (h : InStructs W v 2 (IsFile W) xs) : ∃ A cap, v = .slice A xs.length cap ∧ FilesIn W A xs (fun b => b < W.heap.size) := by
  obtain ⟨A, cap, cs, rfl, h1, h2, h3, h4, h5⟩ := h
  refine ⟨A, cap, rfl, cs, h4, fun hne a ha => h4.lt hne ha, h3, fun i x hx => ?_⟩
  obtain ⟨B, c, e, k1, k2, k3⟩ := h5 i x hx
  exact ⟨B, c, e, k1, fun hne a ha => k1.lt hne ha, k2⟩
theorem le_sum' {α : Type} (f : α → Nat) {l : List α} {x : α} (h : x ∈ l) : f x ≤ (l.map f).sum := by
  induction l with
  | nil => cases h
  | cons y l ih =>
    simp only [List.map_cons, List.sum_cons]
    rcases List.mem_cons.1 h with rfl | h
    · omega
    · have := ih h; omega
theorem file_sizes {xs : List (List UInt8 × List UInt8)} {n : Nat} (h : (xs.map fun x => x.1.length + x.2.length + 1).sum ≤ n) : ∀ x ∈ xs, x.1.length ≤ n ∧ x.2.length ≤ n := by
  intro x hx
  have := le_sum' (fun x : List UInt8 × List UInt8 => x.1.length + x.2.length + 1) hx
  omega
theorem load_fit {xs : List (List UInt8 × List UInt8)} {l : List PF} {n : Nat} (h : loadGo [] xs = some l) (hs : ∀ x ∈ xs, x.1.length ≤ n ∧ x.2.length ≤ n) : l = xs.map toPF ∧ Fit ⟨l, false, 0⟩ n := by
  obtain ⟨h1, h2⟩ := loadGo_some xs [] l Good.nil h
  rw [List.nil_append] at h1
  refine ⟨h1, h2, Nat.zero_le _, fun f hf => ?_⟩
  simp only [h1] at hf
  obtain ⟨x, hx, rfl⟩ := List.mem_map.1 hf
  exact (hs x hx).2
theorem base_grow {X : Nat → Prop} {W w w' : World} (hX : ∀ k, k < W.heap.size → X k) (g : Grow W w) (c : Chg (fun k => ¬ X k) w w') : Grow W w' := g.chgNew c fun i hi hn => hn (hX i hi)
end B
end Go.Proofs.Ytlofcomnhecgfaa
