/- WireForms over what its arguments read as. -/
import Derived.Test.YtlofcomnhecgfaaWForms
import Derived.Test.YtlofcomnhecgfaaArgs2
namespace Go.Proofs.Ytlofcomnhecgfaa
namespace B
set_option linter.unusedVariables false
set_option maxRecDepth 100000
section
variable {H : Type} {enc : TypeId × Value → H} {sp : Nat → Bool} {hd : Bool} {W : World} {base b0 : Nat}
theorem reads_WireForms (W : World) {v0 v1 : Value} {d0 d1 : DataW H} {p0 p1 : List MemPlace}
    (h0 : DataW.Trod enc Try.prog W b0 sp hd 22 v0 d0 p0) (h1 : DataW.Trod enc Try.prog W b0 sp hd 58 v1 d1 p1) (o0 : Value.okWide Try.prog W .any base 22 v0) (o1 : Value.okWide Try.prog W .any base 58 v1) (hb : Rows.uptoBulkAll ([d0, d1] ++ []) ≤ 1048576) :
    Ret Try.prog 12 #[v0, v1] W fun v w' => v = .bool true ∧ Grow W w' := by
  rw [sum2] at hb
  obtain ⟨l, ⟨A, cap, rfl, g1, g2, g3⟩, g4⟩ := arg_bytes h0 o0
  obtain ⟨ops, k1, k2, k3⟩ := arg_ops2 h1 o1
  exact forms12 A cap l v1 ops W g3 (by omega) g1 k1 (by omega)
end
end B
end Go.Proofs.Ytlofcomnhecgfaa
