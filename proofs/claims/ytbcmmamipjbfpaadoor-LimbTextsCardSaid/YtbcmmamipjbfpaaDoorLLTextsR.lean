/- LimbTexts over what its arguments read as. -/
import Derived.Test.YtbcmmamipjbfpaaDoorLLTexts
import Derived.Test.YtbcmmamipjbfpaaDoorLimbArgs
namespace Go.Proofs.YtbcmmamipjbfpaaDoor
namespace B
set_option linter.unusedVariables false
set_option maxRecDepth 100000
section
variable {H : Type} {enc : TypeId × Value → H} {sp : Nat → Bool} {hd : Bool} {W : World} {base b0 : Nat}
theorem reads_LimbTexts (W : World) (ht : Tab W) {v0 v1 : Value} {d0 d1 : DataW H} {p0 p1 : List MemPlace}
    (h0 : DataW.Trod enc Tryd.prog W b0 sp hd 24 v0 d0 p0) (h1 : DataW.Trod enc Tryd.prog W b0 sp hd 9 v1 d1 p1) (o0 : Value.okWide Tryd.prog W .any base 24 v0) (o1 : Value.okWide Tryd.prog W .any base 9 v1) :
    Ret Tryd.prog 7 #[v0, v1] W fun v w' => v = .bool true ∧ Grow W w' := by
  obtain ⟨x0, y0, rfl⟩ := arg_u h0 o0
  obtain ⟨x1, y1, rfl⟩ := arg_s h1 o1
  exact ltexts7 x0 x1 y0 y1 W ht
end
end B
end Go.Proofs.YtbcmmamipjbfpaaDoor
