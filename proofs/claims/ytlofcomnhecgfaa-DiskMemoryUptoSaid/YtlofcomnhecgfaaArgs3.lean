/- What arguments read as: numbers, bools, rows of bytes, files, scripts of layers 6 and 7. No conditions. -/
import Derived.Test.YtlofcomnhecgfaaArgs
import Derived.Test.YtlofcomnhecgfaaOpen2
namespace Go.Proofs.Ytlofcomnhecgfaa
namespace B
set_option linter.unusedVariables false
set_option maxRecDepth 100000
theorem sum1' {H : Type} (a : DataW H) : Rows.uptoBulkAll ([a] ++ []) = Rows.uptoBulk a := by simp [Rows.uptoBulkAll]
theorem sum3 {H : Type} (a b c : DataW H) : Rows.uptoBulkAll ([a, b, c] ++ []) = Rows.uptoBulk a + (Rows.uptoBulk b + Rows.uptoBulk c) := by simp [Rows.uptoBulkAll]
theorem cellsOf52 : Try.prog.cellsOf 52 = 2 := by kernel_rfl
theorem cellsOf75 : Try.prog.cellsOf 75 = 5 := by kernel_rfl
theorem cellsOf93 : Try.prog.cellsOf 93 = 4 := by kernel_rfl
/-- One row of bytes among others. -/
def IsRow (w : World) (l : List UInt8) (cs : List Value) : Prop := ∃ A cap, cs = [.slice A l.length cap] ∧ Sl w A (bvs l) ∧ l.length ≤ cap ∧ cap ≤ maxLen
/-- A file. -/
def IsFile (w : World) (x : List UInt8 × List UInt8) (cs : List Value) : Prop := ∃ A cap, cs = [.string (bstr x.1), .slice A x.2.length cap] ∧ Sl w A (bvs x.2) ∧ x.2.length ≤ cap ∧ cap ≤ maxLen
/-- A step of layer 6's scripts. -/
structure Op6 where
  kind : Int
  n : Int
  name : List UInt8
  b : List UInt8
  keep : List Bool
def IsOp6 (w : World) (o : Op6) (cs : List Value) : Prop := ∃ A cap K kcap, cs = [.int .i64 o.kind, .int .i64 o.n, .string (bstr o.name), .slice A o.b.length cap, .slice K o.keep.length kcap] ∧ Sl w A (bvs o.b) ∧ o.b.length ≤ cap ∧ cap ≤ maxLen ∧ Sl w K (o.keep.map .bool) ∧ o.keep.length ≤ kcap ∧ kcap ≤ maxLen ∧ (-9223372036854775808 ≤ o.n ∧ o.n ≤ 9223372036854775807)
/-- A step of layer 7's scripts. -/
structure Op7 where
  kind : Int
  n : Int
  b : List UInt8
  keep : List Bool
def IsOp7 (w : World) (o : Op7) (cs : List Value) : Prop := ∃ A cap K kcap, cs = [.int .i64 o.kind, .int .i64 o.n, .slice A o.b.length cap, .slice K o.keep.length kcap] ∧ Sl w A (bvs o.b) ∧ o.b.length ≤ cap ∧ cap ≤ maxLen ∧ Sl w K (o.keep.map .bool) ∧ o.keep.length ≤ kcap ∧ kcap ≤ maxLen ∧ (-9223372036854775808 ≤ o.n ∧ o.n ≤ 9223372036854775807)
section
variable {H : Type} {enc : TypeId × Value → H} {w : World} {base : Nat} {spare : Nat → Bool} {held : Bool} {fuel : Nat} {cs : List Value} {x : DataW H × List MemPlace}
theorem open_row (h : DataW.trod enc Try.prog w base spare held fuel 22 cs = some x) : ∃ l, IsRow w l cs ∧ l.length + 1 ≤ Rows.uptoBulk x.1 := by
  have hv : ∃ v, cs = [v] := by
    rcases inv_slice Try.underlying22 h with ⟨h1, _⟩ | ⟨a, len, cap, elems, rest, fuel', h1, _⟩
    · exact ⟨_, h1⟩
    · exact ⟨_, h1⟩
  obtain ⟨v, rfl⟩ := hv
  obtain ⟨l, ⟨A, cap, e3, k1, k2, k3⟩, hb⟩ := open_bytes Try.underlying22 Try.underlying5 cellsOf5 h
  exact ⟨l, ⟨A, cap, by rw [e3], k3, k1, k2⟩, hb⟩
theorem open_bool1 {v : Value} (h : DataW.trod enc Try.prog w base spare held fuel 49 [v] = some x) : ∃ l, InBools w v l ∧ l.length + 1 ≤ Rows.uptoBulk x.1 := open_bools Try.underlying49 Try.underlying4 cellsOf4 h
theorem parts2 {H : Type} {xs : List (DataW H × List MemPlace)} {y0 y1 : DataW H × List MemPlace} (hl : xs.length = 2) (h0 : xs[0]? = some y0) (h1 : xs[1]? = some y1) : Rows.uptoBulk (DataW.agg (xs.map (·.1))) = Rows.uptoBulk y0.1 + Rows.uptoBulk y1.1 + 1 := by
  match xs, hl with
  | [a, b], _ =>
    simp only [List.getElem?_cons_zero, List.getElem?_cons_succ, Option.some.injEq] at h0 h1
    subst h0 h1
    simp [Rows.uptoBulk, Rows.uptoBulkAll]
theorem parts4 {H : Type} {xs : List (DataW H × List MemPlace)} {y2 y3 : DataW H × List MemPlace} (hl : xs.length = 4) (h2 : xs[2]? = some y2) (h3 : xs[3]? = some y3) : Rows.uptoBulk y2.1 + Rows.uptoBulk y3.1 ≤ Rows.uptoBulk (DataW.agg (xs.map (·.1))) := by
  match xs, hl with
  | [a, b, c, d], _ =>
    simp only [List.getElem?_cons_zero, List.getElem?_cons_succ, Option.some.injEq] at h2 h3
    subst h2 h3
    simp [Rows.uptoBulk, Rows.uptoBulkAll]
    omega
theorem parts5 {H : Type} {xs : List (DataW H × List MemPlace)} {y2 y3 y4 : DataW H × List MemPlace} (hl : xs.length = 5) (h2 : xs[2]? = some y2) (h3 : xs[3]? = some y3) (h4 : xs[4]? = some y4) : Rows.uptoBulk y2.1 + Rows.uptoBulk y3.1 + Rows.uptoBulk y4.1 ≤ Rows.uptoBulk (DataW.agg (xs.map (·.1))) := by
  match xs, hl with
  | [a, b, c, d, e], _ =>
    simp only [List.getElem?_cons_zero, List.getElem?_cons_succ, Option.some.injEq] at h2 h3 h4
    subst h2 h3 h4
    simp [Rows.uptoBulk, Rows.uptoBulkAll]
    omega
theorem open_file (h : DataW.trod enc Try.prog w base spare held fuel 52 cs = some x) : ∃ o, IsFile w o cs ∧ o.1.length + o.2.length + 1 ≤ Rows.uptoBulk x.1 := by
  obtain ⟨hl, xs, f', h1, h2, h3⟩ := inv_struct Try.underlying52 h
  rw [cellsOf52] at hl
  obtain ⟨c0, c1, rfl⟩ := len2 hl
  obtain ⟨y0, g0, t0⟩ := h3 0 _ rfl
  obtain ⟨y1, g1, t1⟩ := h3 1 _ rfl
  simp only [cellsOf9, cellsOf22, List.drop_zero, List.drop_succ_cons, List.take_succ_cons, List.take_zero] at t0 t1
  obtain ⟨nm, e0, b0⟩ := inv_string Try.underlying9 t0
  obtain ⟨l, ⟨A, cap, e3, k1, k2, k3⟩, hb⟩ := open_bytes Try.underlying22 Try.underlying5 cellsOf5 t1
  simp only [List.cons.injEq, and_true] at e0
  subst e0 e3
  refine ⟨(nm, l), ⟨A, cap, rfl, k3, k1, k2⟩, ?_⟩
  rw [h1, parts2 (by rw [h2]; rfl) g0 g1, b0]
  simp only [Rows.uptoBulk]
  have hb' : l.length + 1 ≤ Rows.uptoBulk y1.1 := hb
  show nm.length + l.length + 1 ≤ _
  omega
theorem open_op6 (h : DataW.trod enc Try.prog w base spare held fuel 75 cs = some x) : ∃ o, IsOp6 w o cs ∧ o.name.length + o.b.length + o.keep.length + 1 ≤ Rows.uptoBulk x.1 := by
  obtain ⟨hl, xs, f', h1, h2, h3⟩ := inv_struct Try.underlying75 h
  rw [cellsOf75] at hl
  obtain ⟨c0, c1, c2, c3, c4, rfl⟩ := len5 hl
  obtain ⟨y0, g0, t0⟩ := h3 0 _ rfl
  obtain ⟨y1, g1, t1⟩ := h3 1 _ rfl
  obtain ⟨y2, g2, t2⟩ := h3 2 _ rfl
  obtain ⟨y3, g3, t3⟩ := h3 3 _ rfl
  obtain ⟨y4, g4, t4⟩ := h3 4 _ rfl
  simp only [cellsOf3, cellsOf9, cellsOf22, cellsOf49, List.drop_zero, List.drop_succ_cons, List.take_succ_cons, List.take_zero] at t0 t1 t2 t3 t4
  obtain ⟨kind, e0, _, _⟩ := inv_int Try.underlying3 t0
  obtain ⟨n, e1, w1, _⟩ := inv_int Try.underlying3 t1
  obtain ⟨nm, e2, b2⟩ := inv_string Try.underlying9 t2
  obtain ⟨l, ⟨A, cap, e3, k1, k2, k3⟩, hb⟩ := open_bytes Try.underlying22 Try.underlying5 cellsOf5 t3
  obtain ⟨ks, ⟨K, kcap, e4, q1, q2, q3⟩, hb4⟩ := open_bool1 t4
  simp only [List.cons.injEq, and_true] at e0 e1 e2
  subst e0 e1 e2 e3 e4
  refine ⟨⟨kind, n, nm, l, ks⟩, ⟨A, cap, K, kcap, rfl, k3, k1, k2, q3, q1, q2, wf_i64 w1⟩, ?_⟩
  have hp := parts5 (by rw [h2]; rfl) g2 g3 g4
  rw [h1]
  have hb' : l.length + 1 ≤ Rows.uptoBulk y3.1 := hb
  have hb4' : ks.length + 1 ≤ Rows.uptoBulk y4.1 := hb4
  have hb2 : Rows.uptoBulk y2.1 = nm.length + 1 := by rw [b2]; simp [Rows.uptoBulk]
  show nm.length + l.length + ks.length + 1 ≤ _
  omega
theorem open_op7 (h : DataW.trod enc Try.prog w base spare held fuel 93 cs = some x) : ∃ o, IsOp7 w o cs ∧ o.b.length + o.keep.length + 1 ≤ Rows.uptoBulk x.1 := by
  obtain ⟨hl, xs, f', h1, h2, h3⟩ := inv_struct Try.underlying93 h
  rw [cellsOf93] at hl
  obtain ⟨c0, c1, c3, c4, rfl⟩ := len4 hl
  obtain ⟨y0, g0, t0⟩ := h3 0 _ rfl
  obtain ⟨y1, g1, t1⟩ := h3 1 _ rfl
  obtain ⟨y3, g3, t3⟩ := h3 2 _ rfl
  obtain ⟨y4, g4, t4⟩ := h3 3 _ rfl
  simp only [cellsOf3, cellsOf22, cellsOf49, List.drop_zero, List.drop_succ_cons, List.take_succ_cons, List.take_zero] at t0 t1 t3 t4
  obtain ⟨kind, e0, _, _⟩ := inv_int Try.underlying3 t0
  obtain ⟨n, e1, w1, _⟩ := inv_int Try.underlying3 t1
  obtain ⟨l, ⟨A, cap, e3, k1, k2, k3⟩, hb⟩ := open_bytes Try.underlying22 Try.underlying5 cellsOf5 t3
  obtain ⟨ks, ⟨K, kcap, e4, q1, q2, q3⟩, hb4⟩ := open_bool1 t4
  simp only [List.cons.injEq, and_true] at e0 e1
  subst e0 e1 e3 e4
  refine ⟨⟨kind, n, l, ks⟩, ⟨A, cap, K, kcap, rfl, k3, k1, k2, q3, q1, q2, wf_i64 w1⟩, ?_⟩
  have hp := parts4 (by rw [h2]; rfl) g3 g4
  rw [h1]
  have hb' : l.length + 1 ≤ Rows.uptoBulk y3.1 := hb
  have hb4' : ks.length + 1 ≤ Rows.uptoBulk y4.1 := hb4
  show l.length + ks.length + 1 ≤ _
  omega
end
section
variable {H : Type} {enc : TypeId × Value → H} {sp : Nat → Bool} {hd : Bool} {W : World} {base b0 : Nat}
theorem arg_int {v : Value} {d : DataW H} {p : List MemPlace} (h : DataW.Trod enc Try.prog W b0 sp hd 3 v d p) (o : Value.okWide Try.prog W .any base 3 v) : ∃ n : Int, v = .int .i64 n ∧ -9223372036854775808 ≤ n ∧ n ≤ 9223372036854775807 := by
  obtain ⟨fuel, hf⟩ := h
  obtain ⟨n, rfl⟩ := WideShapes.okWide_int Try.underlying3 o
  obtain ⟨m, e, hw, _⟩ := inv_int Try.underlying3 hf
  simp only [Value.cells, List.cons.injEq, Value.int.injEq, true_and, and_true] at e
  subst e
  exact ⟨n, rfl, wf_i64 hw⟩
theorem arg_bools {v : Value} {d : DataW H} {p : List MemPlace} (h : DataW.Trod enc Try.prog W b0 sp hd 49 v d p) (o : Value.okWide Try.prog W .any base 49 v) : ∃ l, InBools W v l ∧ l.length + 1 ≤ Rows.uptoBulk d := by
  obtain ⟨fuel, hf⟩ := h
  obtain ⟨a, len, cap, rfl⟩ := WideShapes.okWide_slice Try.underlying49 o
  exact open_bool1 hf
theorem arg_rows {v : Value} {d : DataW H} {p : List MemPlace} (h : DataW.Trod enc Try.prog W b0 sp hd 56 v d p) (o : Value.okWide Try.prog W .any base 56 v) : ∃ xs, InStructs W v 1 (IsRow W) xs ∧ (xs.map fun l => l.length + 1).sum + 1 ≤ Rows.uptoBulk d ∧ xs.length + 1 ≤ Rows.uptoBulk d := by
  obtain ⟨fuel, hf⟩ := h
  obtain ⟨a, len, cap, rfl⟩ := WideShapes.okWide_slice Try.underlying56 o
  exact open_structs (IsRow W) (fun l => l.length + 1) Try.underlying56 cellsOf22 (by decide) (fun fuel cs x h => open_row h) hf
theorem arg_files {v : Value} {d : DataW H} {p : List MemPlace} (h : DataW.Trod enc Try.prog W b0 sp hd 39 v d p) (o : Value.okWide Try.prog W .any base 39 v) : ∃ xs, InStructs W v 2 (IsFile W) xs ∧ (xs.map fun x => x.1.length + x.2.length + 1).sum + 1 ≤ Rows.uptoBulk d ∧ xs.length + 1 ≤ Rows.uptoBulk d := by
  obtain ⟨fuel, hf⟩ := h
  obtain ⟨a, len, cap, rfl⟩ := WideShapes.okWide_slice Try.underlying39 o
  exact open_structs (IsFile W) (fun x => x.1.length + x.2.length + 1) Try.underlying39 cellsOf52 (by decide) (fun fuel cs x h => open_file h) hf
theorem arg_ops6 {v : Value} {d : DataW H} {p : List MemPlace} (h : DataW.Trod enc Try.prog W b0 sp hd 73 v d p) (o : Value.okWide Try.prog W .any base 73 v) : ∃ ops, InStructs W v 5 (IsOp6 W) ops ∧ (ops.map fun o => o.name.length + o.b.length + o.keep.length + 1).sum + 1 ≤ Rows.uptoBulk d ∧ ops.length + 1 ≤ Rows.uptoBulk d := by
  obtain ⟨fuel, hf⟩ := h
  obtain ⟨a, len, cap, rfl⟩ := WideShapes.okWide_slice Try.underlying73 o
  exact open_structs (IsOp6 W) (fun o => o.name.length + o.b.length + o.keep.length + 1) Try.underlying73 cellsOf75 (by decide) (fun fuel cs x h => open_op6 h) hf
theorem arg_ops7 {v : Value} {d : DataW H} {p : List MemPlace} (h : DataW.Trod enc Try.prog W b0 sp hd 91 v d p) (o : Value.okWide Try.prog W .any base 91 v) : ∃ ops, InStructs W v 4 (IsOp7 W) ops ∧ (ops.map fun o => o.b.length + o.keep.length + 1).sum + 1 ≤ Rows.uptoBulk d ∧ ops.length + 1 ≤ Rows.uptoBulk d := by
  obtain ⟨fuel, hf⟩ := h
  obtain ⟨a, len, cap, rfl⟩ := WideShapes.okWide_slice Try.underlying91 o
  exact open_structs (IsOp7 W) (fun o => o.b.length + o.keep.length + 1) Try.underlying91 cellsOf93 (by decide) (fun fuel cs x h => open_op7 h) hf
end
end B
end Go.Proofs.Ytlofcomnhecgfaa
