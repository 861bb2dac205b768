/- WireLens over what its arguments read as. -/
import Derived.Test.YtlofcomnhecgfaaWLens
import Derived.Test.YtlofcomnhecgfaaOpenOp
namespace Go.Proofs.Ytlofcomnhecgfaa
namespace B
set_option linter.unusedVariables false
set_option maxRecDepth 100000
theorem sum2 {H : Type} (a b : DataW H) : Rows.uptoBulkAll ([a, b] ++ []) = Rows.uptoBulk a + Rows.uptoBulk b := by simp [Rows.uptoBulkAll]
section
variable {H : Type} {enc : TypeId × Value → H} {sp : Nat → Bool} {hd : Bool} {W : World} {base b0 : Nat}
theorem arg_bytes {v : Value} {d : DataW H} {p : List MemPlace} (h : DataW.Trod enc Try.prog W b0 sp hd 22 v d p) (o : Value.okWide Try.prog W .any base 22 v) : ∃ l, InBytes W v l ∧ l.length + 1 ≤ Rows.uptoBulk d := by
  obtain ⟨fuel, hf⟩ := h
  obtain ⟨a, len, cap, rfl⟩ := WideShapes.okWide_slice Try.underlying22 o
  obtain ⟨l, h1, h2⟩ := open_bytes Try.underlying22 Try.underlying5 cellsOf5 hf
  exact ⟨l, h1, h2⟩
theorem arg_op2 {v : Value} {d : DataW H} {p : List MemPlace} (h : DataW.Trod enc Try.prog W b0 sp hd 25 v d p) (o : Value.okWide Try.prog W .any base 25 v) : ∃ o cs, v = .agg cs ∧ IsOp2 W o cs.toList ∧ o.b.length + 1 ≤ Rows.uptoBulk d := by
  obtain ⟨fuel, hf⟩ := h
  obtain ⟨cs, rfl, _⟩ := WideShapes.okWide_struct Try.underlying25 o
  obtain ⟨o, h1, h2⟩ := open_op2 hf
  exact ⟨o, cs, rfl, h1, h2⟩
theorem reads_WireLens (W : World) {v0 v1 : Value} {d0 d1 : DataW H} {p0 p1 : List MemPlace}
    (h0 : DataW.Trod enc Try.prog W b0 sp hd 22 v0 d0 p0) (h1 : DataW.Trod enc Try.prog W b0 sp hd 25 v1 d1 p1) (o0 : Value.okWide Try.prog W .any base 22 v0) (o1 : Value.okWide Try.prog W .any base 25 v1) (hb : Rows.uptoBulkAll ([d0, d1] ++ []) ≤ 1048576) :
    Ret Try.prog 4 #[v0, v1] W fun v w' => v = .bool true ∧ Grow W w' := by
  rw [sum2] at hb
  obtain ⟨l, ⟨A, cap, rfl, g1, g2, g3⟩, g4⟩ := arg_bytes h0 o0
  obtain ⟨o, cs, rfl, ⟨A2, cap2, k0, k1, k2, k3, k4, k5⟩, k6⟩ := arg_op2 h1 o1
  obtain rfl : cs = #[.int .i64 o.kind, .int .i64 o.most, .int .u64 (o.n : Int), .slice A2 o.b.length cap2, .bool o.y] := by rw [← k0]
  exact lens4 A A2 cap cap2 l o.b o.kind o.most o.n o.y W g3 k1 (by omega) (by omega) k2
end
end B
end Go.Proofs.Ytlofcomnhecgfaa
