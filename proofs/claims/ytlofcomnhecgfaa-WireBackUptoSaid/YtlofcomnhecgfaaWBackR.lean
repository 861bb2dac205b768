/- WireBack over what its argument reads as. -/
import Derived.Test.YtlofcomnhecgfaaWBack
import Derived.Test.YtlofcomnhecgfaaArgs2
namespace Go.Proofs.Ytlofcomnhecgfaa
namespace B
set_option linter.unusedVariables false
set_option maxRecDepth 100000
section
variable {H : Type} {enc : TypeId × Value → H} {sp : Nat → Bool} {hd : Bool} {W : World} {base b0 : Nat}
theorem reads_WireBack (W : World) {v0 : Value} {d0 : DataW H} {p0 : List MemPlace}
    (h0 : DataW.Trod enc Try.prog W b0 sp hd 58 v0 d0 p0) (o0 : Value.okWide Try.prog W .any base 58 v0) (hb : Rows.uptoBulkAll ([d0] ++ []) ≤ 1048576) :
    Ret Try.prog 10 #[v0] W fun v w' => v = .bool true ∧ Grow W w' := by
  rw [sum1] at hb
  obtain ⟨ops, h1, h2, h3⟩ := arg_ops2 h0 o0
  exact back10 v0 ops W h1 (by omega) (by omega)
end
end B
end Go.Proofs.Ytlofcomnhecgfaa
