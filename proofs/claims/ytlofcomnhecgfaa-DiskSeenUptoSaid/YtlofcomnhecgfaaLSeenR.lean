/- DiskSeen over what its arguments read as. -/
import Derived.Test.YtlofcomnhecgfaaLSeen
namespace Go.Proofs.Ytlofcomnhecgfaa
namespace B
set_option linter.unusedVariables false
set_option maxRecDepth 100000
section
variable {H : Type} {enc : TypeId × Value → H} {sp : Nat → Bool} {hd : Bool} {W : World} {base b0 : Nat}
theorem reads_DiskSeen (W : World) {v0 v1 : Value} {d0 d1 : DataW H} {p0 p1 : List MemPlace}
    (h0 : DataW.Trod enc Try.prog W b0 sp hd 56 v0 d0 p0) (h1 : DataW.Trod enc Try.prog W b0 sp hd 49 v1 d1 p1) (o0 : Value.okWide Try.prog W .any base 56 v0) (o1 : Value.okWide Try.prog W .any base 49 v1) (hb : Rows.uptoBulkAll ([d0, d1] ++ []) ≤ 1048576) :
    Ret Try.prog 9 #[v0, v1] W fun v w' => v = .bool true ∧ Grow W w' := by
  rw [sum2] at hb
  obtain ⟨xs, k1, k2, k3⟩ := arg_rows h0 o0
  obtain ⟨ks, ⟨KA, kcap, rfl, q1, q2, q3⟩, q4⟩ := arg_bools h1 o1
  exact seen9 v0 KA kcap xs ks W k1 q3 (by omega) (by omega) (by omega)
end
end B
end Go.Proofs.Ytlofcomnhecgfaa
