/- What arguments read as: bytes, one call. No conditions. -/
import Derived.Test.YtlofcomnhecgfaaOpenOp
namespace Go.Proofs.Ytlofcomnhecgfaa
namespace B
set_option linter.unusedVariables false
set_option maxRecDepth 100000
theorem sum2 {H : Type} (a b : DataW H) : Rows.uptoBulkAll ([a, b] ++ []) = Rows.uptoBulk a + Rows.uptoBulk b := by simp [Rows.uptoBulkAll]
section
variable {H : Type} {enc : TypeId × Value → H} {sp : Nat → Bool} {hd : Bool} {W : World} {base b0 : Nat}
theorem arg_bytes {v : Value} {d : DataW H} {p : List MemPlace} (h : DataW.Trod enc Try.prog W b0 sp hd 22 v d p) (o : Value.okWide Try.prog W .any base 22 v) : ∃ l, InBytes W v l ∧ l.length + 1 ≤ Rows.uptoBulk d := by
  obtain ⟨fuel, hf⟩ := h
  obtain ⟨a, len, cap, rfl⟩ := WideShapes.okWide_slice Try.underlying22 o
  obtain ⟨l, h1, h2⟩ := open_bytes Try.underlying22 Try.underlying5 cellsOf5 hf
  exact ⟨l, h1, h2⟩
theorem arg_op2 {v : Value} {d : DataW H} {p : List MemPlace} (h : DataW.Trod enc Try.prog W b0 sp hd 25 v d p) (o : Value.okWide Try.prog W .any base 25 v) : ∃ o cs, v = .agg cs ∧ IsOp2 W o cs.toList ∧ o.b.length + 1 ≤ Rows.uptoBulk d := by
  obtain ⟨fuel, hf⟩ := h
  obtain ⟨cs, rfl, _⟩ := WideShapes.okWide_struct Try.underlying25 o
  obtain ⟨o, h1, h2⟩ := open_op2 hf
  exact ⟨o, cs, rfl, h1, h2⟩
end
end B
end Go.Proofs.Ytlofcomnhecgfaa
