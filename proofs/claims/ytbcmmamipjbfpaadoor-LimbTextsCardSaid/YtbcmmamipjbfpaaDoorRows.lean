/-
  NARROWER THAN 'FOR EVERY INPUT', by the rows' own cells (each row's printed sentence says how): LimbOrder: laid · LimbBytes: laid · LimbSums: laid · LimbProducts: laid · LimbTexts: laid · LimbRing: laid · LimbThree: laid · LimbSplit: laid.
  DERIVED. THE GIVEN ROWS OF THIS SEAT. 8 by the template 'for every input the law returns true; each argument reads behind the call as it read before'; 0 by the template 'total and deterministic' (their statements: YtbcmmamipjbfpaaDoorTotals.lean).
  GIVEN WITH THE SEED: the statements are not yours to turn. If you find one false, say at which input.
  Laid BY PROGRAM, IN A SANDBOX (cutbox-rows.mjs): the forced cells as the released guide's own fill.sh prints them over the translation 35ffd9376b4be009… (all of the seat's roots in one cut). By AI agents, Wed Nov 11 2026. No macro, syntax, notation, axiom, sorry.
-/
import Derived.Test.YtbcmmamipjbfpaaDoorChecked
import GoSem.Claim
import GoSem.ClaimJoined
import GoSem.ClaimMapViews
import Derived.JoinedTies
import Derived.KernelRfl
namespace Go.Proofs.YtbcmmamipjbfpaaDoor
/- THE CELL 'sum', in the pinned program and in every row, IS THE sha256 OF THE DUMP (.gsa) THAT YtbcmmamipjbfpaaDoorProg.lean LOADS. Nothing in Lean hashes anything: it is a label: what it is worth is what the hold of that sum in a sandbox is worth. -/
noncomputable def Tryd.pinned : Pinned := { name := "ytbcmmamipjbfpaadoor", sum := "35ffd9376b4be009220b7ed2b3531c545ff7d3fcf7d12fd64f3f342126f980e8", checked := Tryd.checked }
namespace Rows
def none {H : Type} : Left H := { results := [], args := [] }

/- WHAT THE LISTED PACKAGE-LEVEL VARIABLES READ AS WHEN THE CALL BEGINS. Each datum BY PROGRAM (the guide's laid-datum.mjs) off the statement by which the dump's own 'gosem.cut.vars' lays the variable. In a bare row this is a premise. The card (YtbcmmamipjbfpaaDoorCards.lean) ties it to the program's text. -/
def laid_math_bits_deBruijn32tab {H : Type} : DataW H := .agg [.lit (.int .u8 0), .lit (.int .u8 1), .lit (.int .u8 28), .lit (.int .u8 2), .lit (.int .u8 29), .lit (.int .u8 14), .lit (.int .u8 24), .lit (.int .u8 3), .lit (.int .u8 30), .lit (.int .u8 22), .lit (.int .u8 20), .lit (.int .u8 15), .lit (.int .u8 25), .lit (.int .u8 17), .lit (.int .u8 4), .lit (.int .u8 8), .lit (.int .u8 31), .lit (.int .u8 27), .lit (.int .u8 13), .lit (.int .u8 23), .lit (.int .u8 21), .lit (.int .u8 19), .lit (.int .u8 16), .lit (.int .u8 7), .lit (.int .u8 26), .lit (.int .u8 12), .lit (.int .u8 18), .lit (.int .u8 6), .lit (.int .u8 11), .lit (.int .u8 5), .lit (.int .u8 10), .lit (.int .u8 9)]
def laid_math_bits_deBruijn64tab {H : Type} : DataW H := .agg [.lit (.int .u8 0), .lit (.int .u8 1), .lit (.int .u8 56), .lit (.int .u8 2), .lit (.int .u8 57), .lit (.int .u8 49), .lit (.int .u8 28), .lit (.int .u8 3), .lit (.int .u8 61), .lit (.int .u8 58), .lit (.int .u8 42), .lit (.int .u8 50), .lit (.int .u8 38), .lit (.int .u8 29), .lit (.int .u8 17), .lit (.int .u8 4), .lit (.int .u8 62), .lit (.int .u8 47), .lit (.int .u8 59), .lit (.int .u8 36), .lit (.int .u8 45), .lit (.int .u8 43), .lit (.int .u8 51), .lit (.int .u8 22), .lit (.int .u8 53), .lit (.int .u8 39), .lit (.int .u8 33), .lit (.int .u8 30), .lit (.int .u8 24), .lit (.int .u8 18), .lit (.int .u8 12), .lit (.int .u8 5), .lit (.int .u8 63), .lit (.int .u8 55), .lit (.int .u8 48), .lit (.int .u8 27), .lit (.int .u8 60), .lit (.int .u8 41), .lit (.int .u8 37), .lit (.int .u8 16), .lit (.int .u8 46), .lit (.int .u8 35), .lit (.int .u8 44), .lit (.int .u8 21), .lit (.int .u8 52), .lit (.int .u8 32), .lit (.int .u8 23), .lit (.int .u8 11), .lit (.int .u8 54), .lit (.int .u8 26), .lit (.int .u8 40), .lit (.int .u8 15), .lit (.int .u8 34), .lit (.int .u8 20), .lit (.int .u8 31), .lit (.int .u8 10), .lit (.int .u8 25), .lit (.int .u8 14), .lit (.int .u8 19), .lit (.int .u8 9), .lit (.int .u8 13), .lit (.int .u8 8), .lit (.int .u8 7), .lit (.int .u8 6)]
def laid_internal_strconv_uint64pow10 {H : Type} : DataW H := .agg [.lit (.int .u64 1), .lit (.int .u64 10), .lit (.int .u64 100), .lit (.int .u64 1000), .lit (.int .u64 10000), .lit (.int .u64 100000), .lit (.int .u64 1000000), .lit (.int .u64 10000000), .lit (.int .u64 100000000), .lit (.int .u64 1000000000), .lit (.int .u64 10000000000), .lit (.int .u64 100000000000), .lit (.int .u64 1000000000000), .lit (.int .u64 10000000000000), .lit (.int .u64 100000000000000), .lit (.int .u64 1000000000000000), .lit (.int .u64 10000000000000000), .lit (.int .u64 100000000000000000), .lit (.int .u64 1000000000000000000), .lit (.int .u64 10000000000000000000)]

/-- 'isthmuslaw01.LimbOrder': WHATEVER THE INPUT: true; the input reads as it did. -/
def limbOrderSpec : ChangeSpec := { name := "limbOrder", fn := fun _ => fun
  | [d1, d2, d3] => { results := [.lit (.bool true)], args := [d1, d2, d3] }
  | _ => none }
def limbOrderRow : OpenClaim := { program := "ytbcmmamipjbfpaadoor", sum := "35ffd9376b4be009220b7ed2b3531c545ff7d3fcf7d12fd64f3f342126f980e8", func := "isthmus/isthmuslaw01.LimbOrder", spec := "limbOrder", inPlace := ["math/bits.Add64", "math/bits.Sub64"], named := ["math/bits.divideError", "math/bits.overflowError", "internal/strconv.uint64pow10", "math/bits.deBruijn32tab", "math/bits.deBruijn64tab"], apart := false, laid := [("math/bits.deBruijn32tab", laid_math_bits_deBruijn32tab), ("math/bits.deBruijn64tab", laid_math_bits_deBruijn64tab), ("internal/strconv.uint64pow10", laid_internal_strconv_uint64pow10)] }
def LimbOrderSaid : Prop := limbOrderRow.holds Tryd.pinned (OpenSpec.ofChange limbOrderSpec)

/-- ITS FALSE NEIGHBOUR: 'it returns false'. Refute it at one input. -/
def limbOrderWrong : ChangeSpec := { name := "limbOrder", fn := fun _ => fun
  | [d1, d2, d3] => { results := [.lit (.bool false)], args := [d1, d2, d3] }
  | _ => none }
def LimbOrderWrongFalsely : Prop := limbOrderRow.holds Tryd.pinned (OpenSpec.ofChange limbOrderWrong)

/-- 'isthmuslaw01.LimbBytes': WHATEVER THE INPUT: true; the input reads as it did. -/
def limbBytesSpec : ChangeSpec := { name := "limbBytes", fn := fun _ => fun
  | [d1, d2] => { results := [.lit (.bool true)], args := [d1, d2] }
  | _ => none }
def limbBytesRow : OpenClaim := { program := "ytbcmmamipjbfpaadoor", sum := "35ffd9376b4be009220b7ed2b3531c545ff7d3fcf7d12fd64f3f342126f980e8", func := "isthmus/isthmuslaw01.LimbBytes", spec := "limbBytes", inPlace := ["math/bits.Add64", "math/bits.Sub64"], named := ["math/bits.divideError", "math/bits.overflowError", "internal/strconv.uint64pow10", "math/bits.deBruijn32tab", "math/bits.deBruijn64tab"], apart := false, laid := [("math/bits.deBruijn32tab", laid_math_bits_deBruijn32tab), ("math/bits.deBruijn64tab", laid_math_bits_deBruijn64tab), ("internal/strconv.uint64pow10", laid_internal_strconv_uint64pow10)] }
def LimbBytesSaid : Prop := limbBytesRow.holds Tryd.pinned (OpenSpec.ofChange limbBytesSpec)

/-- ITS FALSE NEIGHBOUR: 'it returns false'. Refute it at one input. -/
def limbBytesWrong : ChangeSpec := { name := "limbBytes", fn := fun _ => fun
  | [d1, d2] => { results := [.lit (.bool false)], args := [d1, d2] }
  | _ => none }
def LimbBytesWrongFalsely : Prop := limbBytesRow.holds Tryd.pinned (OpenSpec.ofChange limbBytesWrong)

/-- 'isthmuslaw01.LimbSums': WHATEVER THE INPUT: true; the input reads as it did. -/
def limbSumsSpec : ChangeSpec := { name := "limbSums", fn := fun _ => fun
  | [d1, d2] => { results := [.lit (.bool true)], args := [d1, d2] }
  | _ => none }
def limbSumsRow : OpenClaim := { program := "ytbcmmamipjbfpaadoor", sum := "35ffd9376b4be009220b7ed2b3531c545ff7d3fcf7d12fd64f3f342126f980e8", func := "isthmus/isthmuslaw01.LimbSums", spec := "limbSums", inPlace := ["math/bits.Add64", "math/bits.Sub64"], named := ["math/bits.divideError", "math/bits.overflowError", "internal/strconv.uint64pow10", "math/bits.deBruijn32tab", "math/bits.deBruijn64tab"], apart := false, laid := [("math/bits.deBruijn32tab", laid_math_bits_deBruijn32tab), ("math/bits.deBruijn64tab", laid_math_bits_deBruijn64tab), ("internal/strconv.uint64pow10", laid_internal_strconv_uint64pow10)] }
def LimbSumsSaid : Prop := limbSumsRow.holds Tryd.pinned (OpenSpec.ofChange limbSumsSpec)

/-- ITS FALSE NEIGHBOUR: 'it returns false'. Refute it at one input. -/
def limbSumsWrong : ChangeSpec := { name := "limbSums", fn := fun _ => fun
  | [d1, d2] => { results := [.lit (.bool false)], args := [d1, d2] }
  | _ => none }
def LimbSumsWrongFalsely : Prop := limbSumsRow.holds Tryd.pinned (OpenSpec.ofChange limbSumsWrong)

/-- 'isthmuslaw01.LimbProducts': WHATEVER THE INPUT: true; the input reads as it did. -/
def limbProductsSpec : ChangeSpec := { name := "limbProducts", fn := fun _ => fun
  | [d1, d2] => { results := [.lit (.bool true)], args := [d1, d2] }
  | _ => none }
def limbProductsRow : OpenClaim := { program := "ytbcmmamipjbfpaadoor", sum := "35ffd9376b4be009220b7ed2b3531c545ff7d3fcf7d12fd64f3f342126f980e8", func := "isthmus/isthmuslaw01.LimbProducts", spec := "limbProducts", inPlace := ["math/bits.Add64", "math/bits.Sub64"], named := ["math/bits.divideError", "math/bits.overflowError", "internal/strconv.uint64pow10", "math/bits.deBruijn32tab", "math/bits.deBruijn64tab"], apart := false, laid := [("math/bits.deBruijn32tab", laid_math_bits_deBruijn32tab), ("math/bits.deBruijn64tab", laid_math_bits_deBruijn64tab), ("internal/strconv.uint64pow10", laid_internal_strconv_uint64pow10)] }
def LimbProductsSaid : Prop := limbProductsRow.holds Tryd.pinned (OpenSpec.ofChange limbProductsSpec)

/-- ITS FALSE NEIGHBOUR: 'it returns false'. Refute it at one input. -/
def limbProductsWrong : ChangeSpec := { name := "limbProducts", fn := fun _ => fun
  | [d1, d2] => { results := [.lit (.bool false)], args := [d1, d2] }
  | _ => none }
def LimbProductsWrongFalsely : Prop := limbProductsRow.holds Tryd.pinned (OpenSpec.ofChange limbProductsWrong)

/-- 'isthmuslaw01.LimbTexts': WHATEVER THE INPUT: true; the input reads as it did. -/
def limbTextsSpec : ChangeSpec := { name := "limbTexts", fn := fun _ => fun
  | [d1, d2] => { results := [.lit (.bool true)], args := [d1, d2] }
  | _ => none }
def limbTextsRow : OpenClaim := { program := "ytbcmmamipjbfpaadoor", sum := "35ffd9376b4be009220b7ed2b3531c545ff7d3fcf7d12fd64f3f342126f980e8", func := "isthmus/isthmuslaw01.LimbTexts", spec := "limbTexts", inPlace := ["math/bits.Add64", "math/bits.Sub64"], named := ["math/bits.divideError", "math/bits.overflowError", "internal/strconv.uint64pow10", "math/bits.deBruijn32tab", "math/bits.deBruijn64tab"], apart := false, laid := [("math/bits.deBruijn32tab", laid_math_bits_deBruijn32tab), ("math/bits.deBruijn64tab", laid_math_bits_deBruijn64tab), ("internal/strconv.uint64pow10", laid_internal_strconv_uint64pow10)] }
def LimbTextsSaid : Prop := limbTextsRow.holds Tryd.pinned (OpenSpec.ofChange limbTextsSpec)

/-- ITS FALSE NEIGHBOUR: 'it returns false'. Refute it at one input. -/
def limbTextsWrong : ChangeSpec := { name := "limbTexts", fn := fun _ => fun
  | [d1, d2] => { results := [.lit (.bool false)], args := [d1, d2] }
  | _ => none }
def LimbTextsWrongFalsely : Prop := limbTextsRow.holds Tryd.pinned (OpenSpec.ofChange limbTextsWrong)

/-- 'isthmuslaw01.LimbRing': WHATEVER THE INPUT: true; the input reads as it did. -/
def limbRingSpec : ChangeSpec := { name := "limbRing", fn := fun _ => fun
  | [d1, d2, d3] => { results := [.lit (.bool true)], args := [d1, d2, d3] }
  | _ => none }
def limbRingRow : OpenClaim := { program := "ytbcmmamipjbfpaadoor", sum := "35ffd9376b4be009220b7ed2b3531c545ff7d3fcf7d12fd64f3f342126f980e8", func := "isthmus/isthmuslaw01.LimbRing", spec := "limbRing", inPlace := ["math/bits.Add64", "math/bits.Sub64"], named := ["math/bits.divideError", "math/bits.overflowError", "internal/strconv.uint64pow10", "math/bits.deBruijn32tab", "math/bits.deBruijn64tab"], apart := false, laid := [("math/bits.deBruijn32tab", laid_math_bits_deBruijn32tab), ("math/bits.deBruijn64tab", laid_math_bits_deBruijn64tab), ("internal/strconv.uint64pow10", laid_internal_strconv_uint64pow10)] }
def LimbRingSaid : Prop := limbRingRow.holds Tryd.pinned (OpenSpec.ofChange limbRingSpec)

/-- ITS FALSE NEIGHBOUR: 'it returns false'. Refute it at one input. -/
def limbRingWrong : ChangeSpec := { name := "limbRing", fn := fun _ => fun
  | [d1, d2, d3] => { results := [.lit (.bool false)], args := [d1, d2, d3] }
  | _ => none }
def LimbRingWrongFalsely : Prop := limbRingRow.holds Tryd.pinned (OpenSpec.ofChange limbRingWrong)

/-- 'isthmuslaw01.LimbThree': WHATEVER THE INPUT: true; the input reads as it did. -/
def limbThreeSpec : ChangeSpec := { name := "limbThree", fn := fun _ => fun
  | [d1, d2, d3] => { results := [.lit (.bool true)], args := [d1, d2, d3] }
  | _ => none }
def limbThreeRow : OpenClaim := { program := "ytbcmmamipjbfpaadoor", sum := "35ffd9376b4be009220b7ed2b3531c545ff7d3fcf7d12fd64f3f342126f980e8", func := "isthmus/isthmuslaw01.LimbThree", spec := "limbThree", inPlace := ["math/bits.Add64", "math/bits.Sub64"], named := ["math/bits.divideError", "math/bits.overflowError", "internal/strconv.uint64pow10", "math/bits.deBruijn32tab", "math/bits.deBruijn64tab"], apart := false, laid := [("math/bits.deBruijn32tab", laid_math_bits_deBruijn32tab), ("math/bits.deBruijn64tab", laid_math_bits_deBruijn64tab), ("internal/strconv.uint64pow10", laid_internal_strconv_uint64pow10)] }
def LimbThreeSaid : Prop := limbThreeRow.holds Tryd.pinned (OpenSpec.ofChange limbThreeSpec)

/-- ITS FALSE NEIGHBOUR: 'it returns false'. Refute it at one input. -/
def limbThreeWrong : ChangeSpec := { name := "limbThree", fn := fun _ => fun
  | [d1, d2, d3] => { results := [.lit (.bool false)], args := [d1, d2, d3] }
  | _ => none }
def LimbThreeWrongFalsely : Prop := limbThreeRow.holds Tryd.pinned (OpenSpec.ofChange limbThreeWrong)

/-- 'isthmuslaw01.LimbSplit': WHATEVER THE INPUT: true; the input reads as it did. -/
def limbSplitSpec : ChangeSpec := { name := "limbSplit", fn := fun _ => fun
  | [d1, d2, d3] => { results := [.lit (.bool true)], args := [d1, d2, d3] }
  | _ => none }
def limbSplitRow : OpenClaim := { program := "ytbcmmamipjbfpaadoor", sum := "35ffd9376b4be009220b7ed2b3531c545ff7d3fcf7d12fd64f3f342126f980e8", func := "isthmus/isthmuslaw01.LimbSplit", spec := "limbSplit", inPlace := ["math/bits.Add64", "math/bits.Sub64"], named := ["math/bits.divideError", "math/bits.overflowError", "internal/strconv.uint64pow10", "math/bits.deBruijn32tab", "math/bits.deBruijn64tab"], apart := false, laid := [("math/bits.deBruijn32tab", laid_math_bits_deBruijn32tab), ("math/bits.deBruijn64tab", laid_math_bits_deBruijn64tab), ("internal/strconv.uint64pow10", laid_internal_strconv_uint64pow10)] }
def LimbSplitSaid : Prop := limbSplitRow.holds Tryd.pinned (OpenSpec.ofChange limbSplitSpec)

/-- ITS FALSE NEIGHBOUR: 'it returns false'. Refute it at one input. -/
def limbSplitWrong : ChangeSpec := { name := "limbSplit", fn := fun _ => fun
  | [d1, d2, d3] => { results := [.lit (.bool false)], args := [d1, d2, d3] }
  | _ => none }
def LimbSplitWrongFalsely : Prop := limbSplitRow.holds Tryd.pinned (OpenSpec.ofChange limbSplitWrong)

/- THE SECOND FORM. 'bulk': how many values and letters a reading holds, each counted each time it is reached (what is shared counts as often as it is met; a slice's spare places count too). A statement '..UptoSaid' is the law's where the arguments, and the package variables that the reading takes, are together of bulk at most 1048576: NARROWER than '..Said'. Prove '..Said' where nothing that the law and all that it calls make is longer than what came in: it says more and counts as full. Else prove '..UptoSaid'. A law counts once. -/
mutual
def uptoBulk {H : Type} : DataW H → Nat
  | .lit (.string bytes) => bytes.length + 1
  | .lit _ => 1
  | .nil => 1
  | .ptr d => uptoBulk d + 1
  | .slice elems spare => uptoBulkAll elems + uptoBulkAll spare + 1
  | .agg parts => uptoBulkAll parts + 1
  | .iface _ d => uptoBulk d + 1
  | .map entries => uptoBulkEntries entries + 1
  | .held _ => 1
def uptoBulkAll {H : Type} : List (DataW H) → Nat
  | [] => 0
  | d :: r => uptoBulk d + uptoBulkAll r
def uptoBulkEntries {H : Type} : List (Lit × DataW H) → Nat
  | [] => 0
  | x :: r => uptoBulkEntry x + uptoBulkEntries r
def uptoBulkEntry {H : Type} : Lit × DataW H → Nat
  | (.string bytes, d) => bytes.length + uptoBulk d + 1
  | (_, d) => uptoBulk d + 1
 end
def uptoSmall : (H : Type) → List (DataW H) → Bool := fun _ ds => decide (uptoBulkAll ds ≤ 1048576)
def OpenSpec.upto (s : _root_.Go.ChangeSpec) : _root_.Go.OpenSpec := { _root_.Go.OpenSpec.ofChange s with cond := some uptoSmall }

/-- 'isthmuslaw01.LimbOrder', WHERE WHAT IT READS IS OF BULK AT MOST 1048576: true; the input reads as it did. -/
def limbOrderUptoRow : OpenClaim := { program := "ytbcmmamipjbfpaadoor", sum := "35ffd9376b4be009220b7ed2b3531c545ff7d3fcf7d12fd64f3f342126f980e8", func := "isthmus/isthmuslaw01.LimbOrder", spec := "limbOrder", inPlace := ["math/bits.Add64", "math/bits.Sub64"], named := ["math/bits.divideError", "math/bits.overflowError", "internal/strconv.uint64pow10", "math/bits.deBruijn32tab", "math/bits.deBruijn64tab"], apart := false, laid := [("math/bits.deBruijn32tab", laid_math_bits_deBruijn32tab), ("math/bits.deBruijn64tab", laid_math_bits_deBruijn64tab), ("internal/strconv.uint64pow10", laid_internal_strconv_uint64pow10)], narrowed := true }
def LimbOrderUptoSaid : Prop := limbOrderUptoRow.holds Tryd.pinned (OpenSpec.upto limbOrderSpec)

/-- 'isthmuslaw01.LimbBytes', WHERE WHAT IT READS IS OF BULK AT MOST 1048576: true; the input reads as it did. -/
def limbBytesUptoRow : OpenClaim := { program := "ytbcmmamipjbfpaadoor", sum := "35ffd9376b4be009220b7ed2b3531c545ff7d3fcf7d12fd64f3f342126f980e8", func := "isthmus/isthmuslaw01.LimbBytes", spec := "limbBytes", inPlace := ["math/bits.Add64", "math/bits.Sub64"], named := ["math/bits.divideError", "math/bits.overflowError", "internal/strconv.uint64pow10", "math/bits.deBruijn32tab", "math/bits.deBruijn64tab"], apart := false, laid := [("math/bits.deBruijn32tab", laid_math_bits_deBruijn32tab), ("math/bits.deBruijn64tab", laid_math_bits_deBruijn64tab), ("internal/strconv.uint64pow10", laid_internal_strconv_uint64pow10)], narrowed := true }
def LimbBytesUptoSaid : Prop := limbBytesUptoRow.holds Tryd.pinned (OpenSpec.upto limbBytesSpec)

/-- 'isthmuslaw01.LimbSums', WHERE WHAT IT READS IS OF BULK AT MOST 1048576: true; the input reads as it did. -/
def limbSumsUptoRow : OpenClaim := { program := "ytbcmmamipjbfpaadoor", sum := "35ffd9376b4be009220b7ed2b3531c545ff7d3fcf7d12fd64f3f342126f980e8", func := "isthmus/isthmuslaw01.LimbSums", spec := "limbSums", inPlace := ["math/bits.Add64", "math/bits.Sub64"], named := ["math/bits.divideError", "math/bits.overflowError", "internal/strconv.uint64pow10", "math/bits.deBruijn32tab", "math/bits.deBruijn64tab"], apart := false, laid := [("math/bits.deBruijn32tab", laid_math_bits_deBruijn32tab), ("math/bits.deBruijn64tab", laid_math_bits_deBruijn64tab), ("internal/strconv.uint64pow10", laid_internal_strconv_uint64pow10)], narrowed := true }
def LimbSumsUptoSaid : Prop := limbSumsUptoRow.holds Tryd.pinned (OpenSpec.upto limbSumsSpec)

/-- 'isthmuslaw01.LimbProducts', WHERE WHAT IT READS IS OF BULK AT MOST 1048576: true; the input reads as it did. -/
def limbProductsUptoRow : OpenClaim := { program := "ytbcmmamipjbfpaadoor", sum := "35ffd9376b4be009220b7ed2b3531c545ff7d3fcf7d12fd64f3f342126f980e8", func := "isthmus/isthmuslaw01.LimbProducts", spec := "limbProducts", inPlace := ["math/bits.Add64", "math/bits.Sub64"], named := ["math/bits.divideError", "math/bits.overflowError", "internal/strconv.uint64pow10", "math/bits.deBruijn32tab", "math/bits.deBruijn64tab"], apart := false, laid := [("math/bits.deBruijn32tab", laid_math_bits_deBruijn32tab), ("math/bits.deBruijn64tab", laid_math_bits_deBruijn64tab), ("internal/strconv.uint64pow10", laid_internal_strconv_uint64pow10)], narrowed := true }
def LimbProductsUptoSaid : Prop := limbProductsUptoRow.holds Tryd.pinned (OpenSpec.upto limbProductsSpec)

/-- 'isthmuslaw01.LimbTexts', WHERE WHAT IT READS IS OF BULK AT MOST 1048576: true; the input reads as it did. -/
def limbTextsUptoRow : OpenClaim := { program := "ytbcmmamipjbfpaadoor", sum := "35ffd9376b4be009220b7ed2b3531c545ff7d3fcf7d12fd64f3f342126f980e8", func := "isthmus/isthmuslaw01.LimbTexts", spec := "limbTexts", inPlace := ["math/bits.Add64", "math/bits.Sub64"], named := ["math/bits.divideError", "math/bits.overflowError", "internal/strconv.uint64pow10", "math/bits.deBruijn32tab", "math/bits.deBruijn64tab"], apart := false, laid := [("math/bits.deBruijn32tab", laid_math_bits_deBruijn32tab), ("math/bits.deBruijn64tab", laid_math_bits_deBruijn64tab), ("internal/strconv.uint64pow10", laid_internal_strconv_uint64pow10)], narrowed := true }
def LimbTextsUptoSaid : Prop := limbTextsUptoRow.holds Tryd.pinned (OpenSpec.upto limbTextsSpec)

/-- 'isthmuslaw01.LimbRing', WHERE WHAT IT READS IS OF BULK AT MOST 1048576: true; the input reads as it did. -/
def limbRingUptoRow : OpenClaim := { program := "ytbcmmamipjbfpaadoor", sum := "35ffd9376b4be009220b7ed2b3531c545ff7d3fcf7d12fd64f3f342126f980e8", func := "isthmus/isthmuslaw01.LimbRing", spec := "limbRing", inPlace := ["math/bits.Add64", "math/bits.Sub64"], named := ["math/bits.divideError", "math/bits.overflowError", "internal/strconv.uint64pow10", "math/bits.deBruijn32tab", "math/bits.deBruijn64tab"], apart := false, laid := [("math/bits.deBruijn32tab", laid_math_bits_deBruijn32tab), ("math/bits.deBruijn64tab", laid_math_bits_deBruijn64tab), ("internal/strconv.uint64pow10", laid_internal_strconv_uint64pow10)], narrowed := true }
def LimbRingUptoSaid : Prop := limbRingUptoRow.holds Tryd.pinned (OpenSpec.upto limbRingSpec)

/-- 'isthmuslaw01.LimbThree', WHERE WHAT IT READS IS OF BULK AT MOST 1048576: true; the input reads as it did. -/
def limbThreeUptoRow : OpenClaim := { program := "ytbcmmamipjbfpaadoor", sum := "35ffd9376b4be009220b7ed2b3531c545ff7d3fcf7d12fd64f3f342126f980e8", func := "isthmus/isthmuslaw01.LimbThree", spec := "limbThree", inPlace := ["math/bits.Add64", "math/bits.Sub64"], named := ["math/bits.divideError", "math/bits.overflowError", "internal/strconv.uint64pow10", "math/bits.deBruijn32tab", "math/bits.deBruijn64tab"], apart := false, laid := [("math/bits.deBruijn32tab", laid_math_bits_deBruijn32tab), ("math/bits.deBruijn64tab", laid_math_bits_deBruijn64tab), ("internal/strconv.uint64pow10", laid_internal_strconv_uint64pow10)], narrowed := true }
def LimbThreeUptoSaid : Prop := limbThreeUptoRow.holds Tryd.pinned (OpenSpec.upto limbThreeSpec)

/-- 'isthmuslaw01.LimbSplit', WHERE WHAT IT READS IS OF BULK AT MOST 1048576: true; the input reads as it did. -/
def limbSplitUptoRow : OpenClaim := { program := "ytbcmmamipjbfpaadoor", sum := "35ffd9376b4be009220b7ed2b3531c545ff7d3fcf7d12fd64f3f342126f980e8", func := "isthmus/isthmuslaw01.LimbSplit", spec := "limbSplit", inPlace := ["math/bits.Add64", "math/bits.Sub64"], named := ["math/bits.divideError", "math/bits.overflowError", "internal/strconv.uint64pow10", "math/bits.deBruijn32tab", "math/bits.deBruijn64tab"], apart := false, laid := [("math/bits.deBruijn32tab", laid_math_bits_deBruijn32tab), ("math/bits.deBruijn64tab", laid_math_bits_deBruijn64tab), ("internal/strconv.uint64pow10", laid_internal_strconv_uint64pow10)], narrowed := true }
def LimbSplitUptoSaid : Prop := limbSplitUptoRow.holds Tryd.pinned (OpenSpec.upto limbSplitSpec)

end Rows
end Go.Proofs.YtbcmmamipjbfpaaDoor
