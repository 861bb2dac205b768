/- DiskLoads over what its arguments read as. -/
import Derived.Test.YtlofcomnhecgfaaLLoads
namespace Go.Proofs.Ytlofcomnhecgfaa
namespace B
set_option linter.unusedVariables false
set_option maxRecDepth 100000
section
variable {H : Type} {enc : TypeId × Value → H} {sp : Nat → Bool} {hd : Bool} {W : World} {base b0 : Nat}
theorem reads_DiskLoads (W : World) {v0 : Value} {d0 : DataW H} {p0 : List MemPlace}
    (h0 : DataW.Trod enc Try.prog W b0 sp hd 39 v0 d0 p0) (o0 : Value.okWide Try.prog W .any base 39 v0) (hb : Rows.uptoBulkAll ([d0] ++ []) ≤ 1048576) :
    Ret Try.prog 7 #[v0] W fun v w' => v = .bool true ∧ Grow W w' := by
  rw [sum1'] at hb
  obtain ⟨xs, k1, k2, k3⟩ := arg_files h0 o0
  obtain ⟨A, cap, rfl, hx⟩ := files_in k1
  exact loads7 A cap xs _ W hx (by omega) (file_sizes (by omega))
end
end B
end Go.Proofs.Ytlofcomnhecgfaa
