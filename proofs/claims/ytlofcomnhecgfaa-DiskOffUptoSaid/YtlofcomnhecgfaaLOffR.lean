/- DiskOff over what its arguments read as. -/
import Derived.Test.YtlofcomnhecgfaaLOff
namespace Go.Proofs.Ytlofcomnhecgfaa
namespace B
set_option linter.unusedVariables false
set_option maxRecDepth 100000
section
variable {H : Type} {enc : TypeId × Value → H} {sp : Nat → Bool} {hd : Bool} {W : World} {base b0 : Nat}
theorem reads_DiskOff (W : World) {v0 v1 : Value} {d0 d1 : DataW H} {p0 p1 : List MemPlace}
    (h0 : DataW.Trod enc Try.prog W b0 sp hd 39 v0 d0 p0) (h1 : DataW.Trod enc Try.prog W b0 sp hd 73 v1 d1 p1) (o0 : Value.okWide Try.prog W .any base 39 v0) (o1 : Value.okWide Try.prog W .any base 73 v1) (hb : Rows.uptoBulkAll ([d0, d1] ++ []) ≤ 1048576) :
    Ret Try.prog 15 #[v0, v1] W fun v w' => v = .bool true ∧ Grow W w' := by
  rw [sum2] at hb
  obtain ⟨xs, k1, k2, k3⟩ := arg_files h0 o0
  obtain ⟨ops, q1, q2, q3⟩ := arg_ops6 h1 o1
  obtain ⟨A, cap, rfl, hx⟩ := files_in k1
  exact off15 A cap xs _ v1 ops W hx q1 (by omega) (file_sizes (by omega)) (by omega) (by omega)
end
end B
end Go.Proofs.Ytlofcomnhecgfaa
