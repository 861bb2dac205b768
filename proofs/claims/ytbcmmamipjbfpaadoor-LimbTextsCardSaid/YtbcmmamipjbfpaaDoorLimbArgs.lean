/- What the arguments of the laws over limb read as, and what the rows' list gives. No conditions. -/
import Derived.Test.YtbcmmamipjbfpaaDoorOpen
import Derived.Test.YtbcmmamipjbfpaaDoorLimbM
import Derived.WideShapes
import Derived.ChangeMaps5
import Derived.Lib.LaidTab
import Derived.Stop.LaidErr
namespace Go.Proofs.YtbcmmamipjbfpaaDoor
namespace B
set_option linter.unusedVariables false
set_option linter.unusedSimpArgs false
set_option maxRecDepth 100000

theorem tabEq : (Rows.laid_internal_strconv_uint64pow10 : DataW Unit) = Lib.tabData .u64 Lib.pow10Tab := by kernel_rfl
theorem gTab : Tryd.prog.globalNamed "internal/strconv.uint64pow10" = some 2 := by kernel_rfl
theorem gTabType : (Tryd.prog.globals[2]?).map (·.type) = some 67 := by kernel_rfl
theorem cells67 : Tryd.prog.cellsOf 67 = 20 := by kernel_rfl
theorem cells22 : Tryd.prog.cellsOf 22 = 1 := by kernel_rfl
theorem cells24 : Tryd.prog.cellsOf 24 = 4 := by kernel_rfl
theorem cells5 : Tryd.prog.cellsOf 5 = 1 := by kernel_rfl
/-- What the rows' list gives: the table. -/
theorem tab_of {W : World} (h : laidMetH Tryd.prog [("math/bits.deBruijn32tab", Rows.laid_math_bits_deBruijn32tab), ("math/bits.deBruijn64tab", Rows.laid_math_bits_deBruijn64tab), ("internal/strconv.uint64pow10", Rows.laid_internal_strconv_uint64pow10)] W) : Tab W := by
  have h1 : laidMet Tryd.prog [("math/bits.deBruijn32tab", Rows.laid_math_bits_deBruijn32tab), ("math/bits.deBruijn64tab", Rows.laid_math_bits_deBruijn64tab), ("internal/strconv.uint64pow10", Rows.laid_internal_strconv_uint64pow10)] W := h
  have h2 := h1.tail.tail
  rw [tabEq] at h2
  exact Lib.tabIs_of_head (rest := []) gTab gTabType Tryd.underlying67 Tryd.underlying22 cells22 cells67 h2
section
variable {H : Type} {enc : TypeId × Value → H} {sp : Nat → Bool} {hd : Bool} {W : World} {base b0 : Nat} {v : Value} {d : DataW H} {p : List MemPlace}
/-- A number of 256 bits. -/
theorem arg_u (h : DataW.Trod enc Tryd.prog W b0 sp hd 24 v d p) (o : Value.okWide Tryd.prog W .any base 24 v) : ∃ N, N < m256 ∧ v = uv N := by
  obtain ⟨fuel, hf⟩ := h
  obtain ⟨cs, rfl, _⟩ : ∃ cs, v = .agg cs ∧ cs.size = Tryd.prog.cellsOf 24 := by
    unfold Value.okWide at o
    rw [Tryd.underlying24] at o
    obtain ⟨cs, h1, h2, _⟩ := o
    exact ⟨cs, h1, h2⟩
  obtain ⟨h1, xs, fuel', h2, h3, h4⟩ := inv_array Tryd.underlying24 hf
  rw [cells24] at h1
  rw [cells22] at h4
  have key : ∀ i, i < 4 → ∃ n : Nat, n < m64 ∧ cs.toList[i]? = some (.int .u64 (n : Int)) := fun i hi => by
    obtain ⟨y, k1, k2⟩ := h4 i hi
    obtain ⟨n, k3, k4, _⟩ := inv_int Tryd.underlying22 k2
    obtain ⟨m, rfl, k5⟩ := wf_u64 k4
    refine ⟨m, k5, ?_⟩
    have := congrArg (fun l : List Value => l[0]?) k3
    simp only [Nat.mul_one, List.getElem?_take, List.getElem?_drop, Nat.zero_lt_one, if_true, Nat.add_zero, List.getElem?_cons_zero] at this
    exact this
  obtain ⟨n0, l0, e0⟩ := key 0 (by omega)
  obtain ⟨n1, l1, e1⟩ := key 1 (by omega)
  obtain ⟨n2, l2, e2⟩ := key 2 (by omega)
  obtain ⟨n3, l3, e3⟩ := key 3 (by omega)
  obtain ⟨k1, k2⟩ := lb_of (fun i => if i = 0 then n0 else if i = 1 then n1 else if i = 2 then n2 else n3) (fun i => by
    show (if i = 0 then n0 else if i = 1 then n1 else if i = 2 then n2 else n3) < m64
    split
    · exact l0
    · split
      · exact l1
      · split
        · exact l2
        · exact l3)
  refine ⟨_, k2, ?_⟩
  rw [← uv_of fun i hi => (k1 i hi).symm]
  have hl : cs.toList.length = 4 := h1
  congr 1
  apply Array.ext_getElem?
  intro i
  rw [← Array.getElem?_toList]
  by_cases hi : i < 4
  · obtain rfl | rfl | rfl | rfl : i = 0 ∨ i = 1 ∨ i = 2 ∨ i = 3 := by omega
    · rw [e0]; rfl
    · rw [e1]; rfl
    · rw [e2]; rfl
    · rw [e3]; rfl
  · rw [List.getElem?_eq_none (by omega), Array.getElem?_eq_none (by show 4 ≤ i; omega)]
/-- A number of 64 bits. -/
theorem arg_n (h : DataW.Trod enc Tryd.prog W b0 sp hd 22 v d p) (o : Value.okWide Tryd.prog W .any base 22 v) : ∃ n : Nat, n < m64 ∧ v = .int .u64 (n : Int) := by
  obtain ⟨fuel, hf⟩ := h
  obtain ⟨m, rfl⟩ := WideShapes.okWide_int Tryd.underlying22 o
  obtain ⟨n, h1, h2, _⟩ := inv_int Tryd.underlying22 hf
  obtain ⟨k, rfl, h3⟩ := wf_u64 h2
  refine ⟨k, h3, ?_⟩
  have : [Value.int .u64 m] = [Value.int .u64 (k : Int)] := h1
  simpa using this
/-- A text. -/
theorem arg_s (h : DataW.Trod enc Tryd.prog W b0 sp hd 9 v d p) (o : Value.okWide Tryd.prog W .any base 9 v) : ∃ l : List UInt8, l.length ≤ 9223372036854775807 ∧ v = .string (bstr l) := by
  obtain ⟨s, rfl, _, _, hs⟩ := ChangeMaps.open_string Tryd.underlying9 o h
  refine ⟨s.data.toList, ?_, by rw [bstr_eta]⟩
  have : s.data.toList.length = s.size := by rw [← bstr_size, bstr_eta]
  unfold maxLen at hs
  omega
/-- Bytes. -/
theorem arg_b (h : DataW.Trod enc Tryd.prog W b0 sp hd 26 v d p) (o : Value.okWide Tryd.prog W .any base 26 v) : ∃ l, InBytes W v l := by
  obtain ⟨fuel, hf⟩ := h
  obtain ⟨a, len, cap, rfl⟩ := WideShapes.okWide_slice Tryd.underlying26 o
  obtain ⟨l, h1, h2⟩ := open_bytes Tryd.underlying26 Tryd.underlying5 cells5 hf
  exact ⟨l, h1⟩
end
end B
end Go.Proofs.YtbcmmamipjbfpaaDoor
