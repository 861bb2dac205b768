/- isthmuslaw02.Op as an argument. No conditions. -/
import Derived.Test.YtlofcomnhecgfaaOpen
namespace Go.Proofs.Ytlofcomnhecgfaa
namespace B
set_option linter.unusedVariables false

theorem cellsOf3 : Try.prog.cellsOf 3 = 1 := by kernel_rfl
theorem cellsOf4 : Try.prog.cellsOf 4 = 1 := by kernel_rfl
theorem cellsOf5 : Try.prog.cellsOf 5 = 1 := by kernel_rfl
theorem cellsOf9 : Try.prog.cellsOf 9 = 1 := by kernel_rfl
theorem cellsOf22 : Try.prog.cellsOf 22 = 1 := by kernel_rfl
theorem cellsOf23 : Try.prog.cellsOf 23 = 1 := by kernel_rfl
theorem cellsOf25 : Try.prog.cellsOf 25 = 5 := by kernel_rfl
theorem cellsOf49 : Try.prog.cellsOf 49 = 1 := by kernel_rfl

theorem len5 {α : Type} {l : List α} (h : l.length = 5) : ∃ a b c d e, l = [a, b, c, d, e] := by
  match l, h with
  | [a, b, c, d, e], _ => exact ⟨a, b, c, d, e, rfl⟩
theorem len4 {α : Type} {l : List α} (h : l.length = 4) : ∃ a b c d, l = [a, b, c, d] := by
  match l, h with
  | [a, b, c, d], _ => exact ⟨a, b, c, d, rfl⟩
theorem len2 {α : Type} {l : List α} (h : l.length = 2) : ∃ a b, l = [a, b] := by
  match l, h with
  | [a, b], _ => exact ⟨a, b, rfl⟩
section
variable {H : Type} {enc : TypeId × Value → H} {w : World} {base : Nat} {spare : Nat → Bool} {held : Bool} {fuel : Nat} {cs : List Value} {x : DataW H × List MemPlace}
/-- One Op of layer 2: kind, most, number, bytes, flag. -/
structure Op2 where
  kind : Int
  most : Int
  n : Nat
  b : List UInt8
  y : Bool
def IsOp2 (w : World) (o : Op2) (cs : List Value) : Prop :=
  ∃ A cap, cs = [.int .i64 o.kind, .int .i64 o.most, .int .u64 (o.n : Int), .slice A o.b.length cap, .bool o.y] ∧ Sl w A (bvs o.b) ∧ o.b.length ≤ cap ∧ cap ≤ maxLen ∧ (-9223372036854775808 ≤ o.most ∧ o.most ≤ 9223372036854775807) ∧ o.n < 18446744073709551616
theorem IsOp2.grow {w w' : World} {o : Op2} {cs : List Value} (h : IsOp2 w o cs) (hg : Grow w w') : IsOp2 w' o cs := by
  obtain ⟨A, cap, h1, h2, h3⟩ := h
  exact ⟨A, cap, h1, h2.grow hg, h3⟩

theorem open_op2 (h : DataW.trod enc Try.prog w base spare held fuel 25 cs = some x) : ∃ o, IsOp2 w o cs ∧ o.b.length + 1 ≤ Rows.uptoBulk x.1 := by
  obtain ⟨hl, xs, f', h1, h2, h3⟩ := inv_struct Try.underlying25 h
  rw [cellsOf25] at hl
  obtain ⟨c0, c1, c2, c3, c4, rfl⟩ := len5 hl
  obtain ⟨y0, g0, t0⟩ := h3 0 _ rfl
  obtain ⟨y1, g1, t1⟩ := h3 1 _ rfl
  obtain ⟨y2, g2, t2⟩ := h3 2 _ rfl
  obtain ⟨y3, g3, t3⟩ := h3 3 _ rfl
  obtain ⟨y4, g4, t4⟩ := h3 4 _ rfl
  simp only [cellsOf3, cellsOf23, cellsOf22, cellsOf4, List.drop_zero, List.drop_succ_cons, List.take_succ_cons, List.take_zero] at t0 t1 t2 t3 t4
  obtain ⟨kind, e0, _, _⟩ := inv_int Try.underlying3 t0
  obtain ⟨most, e1, w1, _⟩ := inv_int Try.underlying3 t1
  obtain ⟨n, e2, w2, _⟩ := inv_int Try.underlying23 t2
  obtain ⟨l, ⟨A, cap, e3, k1, k2, k3⟩, hb⟩ := open_bytes Try.underlying22 Try.underlying5 cellsOf5 t3
  obtain ⟨y, e4, _⟩ := inv_bool Try.underlying4 t4
  obtain ⟨m, rfl, hm⟩ := wf_u64 w2
  simp only [List.cons.injEq, and_true] at e0 e1 e2 e4
  subst e0 e1 e2 e3 e4
  refine ⟨⟨kind, most, m, l, y⟩, ⟨A, cap, rfl, k3, k1, k2, wf_i64 w1, hm⟩, ?_⟩
  rw [h1]
  simp only [Rows.uptoBulk]
  have hmem : y3.1 ∈ xs.map (·.1) := List.mem_map.2 ⟨y3, List.mem_of_getElem? g3, rfl⟩
  have := bulk_part hmem
  have hb' : l.length + 1 ≤ Rows.uptoBulk y3.1 := hb
  show l.length + 1 ≤ _
  omega
end
end B
end Go.Proofs.Ytlofcomnhecgfaa
