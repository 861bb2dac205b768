/- What a script of layer 2 reads as. No conditions. -/
import Derived.Test.YtlofcomnhecgfaaArgs
import Derived.Test.YtlofcomnhecgfaaOpen2
namespace Go.Proofs.Ytlofcomnhecgfaa
namespace B
set_option linter.unusedVariables false
set_option maxRecDepth 100000
section
variable {H : Type} {enc : TypeId × Value → H} {sp : Nat → Bool} {hd : Bool} {W : World} {base b0 : Nat}
theorem sum1 {H : Type} (a : DataW H) : Rows.uptoBulkAll ([a] ++ []) = Rows.uptoBulk a := by simp [Rows.uptoBulkAll]
theorem arg_ops2 {v : Value} {d : DataW H} {p : List MemPlace} (h : DataW.Trod enc Try.prog W b0 sp hd 58 v d p) (o : Value.okWide Try.prog W .any base 58 v) : ∃ ops, InStructs W v 5 (IsOp2 W) ops ∧ (ops.map fun o => o.b.length + 1).sum + 1 ≤ Rows.uptoBulk d ∧ ops.length + 1 ≤ Rows.uptoBulk d := by
  obtain ⟨fuel, hf⟩ := h
  obtain ⟨a, len, cap, rfl⟩ := WideShapes.okWide_slice Try.underlying58 o
  exact open_structs (IsOp2 W) (fun o => o.b.length + 1) Try.underlying58 cellsOf25 (by decide) (fun fuel cs x h => open_op2 h) hf
end
end B
end Go.Proofs.Ytlofcomnhecgfaa
