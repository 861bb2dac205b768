/- DiskMemory over what its arguments read as. -/
import Derived.Test.YtlofcomnhecgfaaLMem
namespace Go.Proofs.Ytlofcomnhecgfaa
namespace B
set_option linter.unusedVariables false
set_option maxRecDepth 100000
section
variable {H : Type} {enc : TypeId × Value → H} {sp : Nat → Bool} {hd : Bool} {W : World} {base b0 : Nat}
theorem reads_DiskMemory (W : World) {v0 : Value} {d0 : DataW H} {p0 : List MemPlace}
    (h0 : DataW.Trod enc Try.prog W b0 sp hd 22 v0 d0 p0) (o0 : Value.okWide Try.prog W .any base 22 v0) (hb : Rows.uptoBulkAll ([d0] ++ []) ≤ 1048576) :
    Ret Try.prog 13 #[v0] W fun v w' => v = .bool true ∧ Grow W w' := by
  rw [sum1'] at hb
  obtain ⟨a, ⟨A, cap, rfl, g1, g2, g3⟩, g4⟩ := arg_bytes h0 o0
  exact mem13 A cap a W g3 (by omega)
end
end B
end Go.Proofs.Ytlofcomnhecgfaa
