/- DiskArms over what its arguments read as. -/
import Derived.Test.YtlofcomnhecgfaaLArms
import Derived.Test.YtlofcomnhecgfaaArgs3
namespace Go.Proofs.Ytlofcomnhecgfaa
namespace B
set_option linter.unusedVariables false
set_option maxRecDepth 100000
section
variable {H : Type} {enc : TypeId × Value → H} {sp : Nat → Bool} {hd : Bool} {W : World} {base b0 : Nat}
theorem reads_DiskArms (W : World) {v0 v1 : Value} {d0 d1 : DataW H} {p0 p1 : List MemPlace}
    (h0 : DataW.Trod enc Try.prog W b0 sp hd 3 v0 d0 p0) (h1 : DataW.Trod enc Try.prog W b0 sp hd 22 v1 d1 p1) (o0 : Value.okWide Try.prog W .any base 3 v0) (o1 : Value.okWide Try.prog W .any base 22 v1) (hb : Rows.uptoBulkAll ([d0, d1] ++ []) ≤ 1048576) :
    Ret Try.prog 6 #[v0, v1] W fun v w' => v = .bool true ∧ Grow W w' := by
  rw [sum2] at hb
  obtain ⟨n, rfl, hn⟩ := arg_int h0 o0
  obtain ⟨l, ⟨A, cap, rfl, g1, g2, g3⟩, g4⟩ := arg_bytes h1 o1
  exact arms6 n A cap l W g3 (by omega) hn
end
end B
end Go.Proofs.Ytlofcomnhecgfaa
