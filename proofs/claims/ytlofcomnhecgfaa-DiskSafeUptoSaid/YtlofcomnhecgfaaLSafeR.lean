/- DiskSafe over what its arguments read as. -/
import Derived.Test.YtlofcomnhecgfaaLSafe
import Derived.Test.YtlofcomnhecgfaaArgs3
namespace Go.Proofs.Ytlofcomnhecgfaa
namespace B
set_option linter.unusedVariables false
set_option maxRecDepth 100000
section
variable {H : Type} {enc : TypeId × Value → H} {sp : Nat → Bool} {hd : Bool} {W : World} {base b0 : Nat}
theorem reads_DiskSafe (W : World) {v0 v1 v2 : Value} {d0 d1 d2 : DataW H} {p0 p1 p2 : List MemPlace}
    (h0 : DataW.Trod enc Try.prog W b0 sp hd 22 v0 d0 p0) (h1 : DataW.Trod enc Try.prog W b0 sp hd 22 v1 d1 p1) (h2 : DataW.Trod enc Try.prog W b0 sp hd 49 v2 d2 p2) (o0 : Value.okWide Try.prog W .any base 22 v0) (o1 : Value.okWide Try.prog W .any base 22 v1) (o2 : Value.okWide Try.prog W .any base 49 v2) (hb : Rows.uptoBulkAll ([d0, d1, d2] ++ []) ≤ 1048576) :
    Ret Try.prog 8 #[v0, v1, v2] W fun v w' => v = .bool true ∧ Grow W w' := by
  rw [sum3] at hb
  obtain ⟨a, ⟨A, cap, rfl, g1, g2, g3⟩, g4⟩ := arg_bytes h0 o0
  obtain ⟨b, ⟨A1, cap1, rfl, k1, k2, k3⟩, k4⟩ := arg_bytes h1 o1
  obtain ⟨ks, ⟨KA, kcap, rfl, q1, q2, q3⟩, q4⟩ := arg_bools h2 o2
  exact safe8 A A1 KA cap cap1 kcap a b ks W g3 k3 q3 q1 g1 (by omega) (by omega) (by omega)
end
end B
end Go.Proofs.Ytlofcomnhecgfaa
