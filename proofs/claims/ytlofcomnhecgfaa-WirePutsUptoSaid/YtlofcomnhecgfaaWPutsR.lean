/- WirePuts over what its arguments read as. -/
import Derived.Test.YtlofcomnhecgfaaWPuts
import Derived.Test.YtlofcomnhecgfaaArgs
namespace Go.Proofs.Ytlofcomnhecgfaa
namespace B
set_option linter.unusedVariables false
set_option maxRecDepth 100000
section
variable {H : Type} {enc : TypeId × Value → H} {sp : Nat → Bool} {hd : Bool} {W : World} {base b0 : Nat}
theorem reads_WirePuts (W : World) {v0 v1 : Value} {d0 d1 : DataW H} {p0 p1 : List MemPlace}
    (h0 : DataW.Trod enc Try.prog W b0 sp hd 22 v0 d0 p0) (h1 : DataW.Trod enc Try.prog W b0 sp hd 25 v1 d1 p1) (o0 : Value.okWide Try.prog W .any base 22 v0) (o1 : Value.okWide Try.prog W .any base 25 v1) (hb : Rows.uptoBulkAll ([d0, d1] ++ []) ≤ 1048576) :
    Ret Try.prog 3 #[v0, v1] W fun v w' => v = .bool true ∧ Grow W w' := by
  rw [sum2] at hb
  obtain ⟨l, ⟨A, cap, rfl, g1, g2, g3⟩, g4⟩ := arg_bytes h0 o0
  obtain ⟨o, cs, rfl, ⟨A2, cap2, k0, k1, k2, k3, k4, k5⟩, k6⟩ := arg_op2 h1 o1
  obtain rfl : cs = #[.int .i64 o.kind, .int .i64 o.most, .int .u64 (o.n : Int), .slice A2 o.b.length cap2, .bool o.y] := by rw [← k0]
  exact puts3 A A2 cap cap2 l o.b o.kind o.most o.n o.y W g3 k1 (by omega) (by omega) k2
end
end B
end Go.Proofs.Ytlofcomnhecgfaa
