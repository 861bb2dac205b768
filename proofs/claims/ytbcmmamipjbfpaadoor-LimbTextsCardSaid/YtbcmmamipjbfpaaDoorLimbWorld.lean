/- A world in which the listed variables hold what the program's text lays. No conditions. -/
import Derived.Test.YtbcmmamipjbfpaaDoorLimbArgs
import Derived.WalkKit
import Derived.ProofKit
import Derived.OpenShut
import Derived.Deep.DeepHandedRow
namespace Go.Proofs.YtbcmmamipjbfpaaDoor
namespace B
open Go.ChangeShapes Go.WideShapes Go.ChangeAt Go.RowKit
def litCells (d : DataW Unit) : Array Value := match d with
  | .agg parts => (parts.map fun x => match x with | .lit (.int k n) => Value.int k n | _ => undef).toArray
  | _ => #[]
def putCells (d : DataW Unit) : Obj → Obj
  | .cells _ t frozen => .cells (litCells d) t frozen
  | o => o
noncomputable def laidWorld (os : Os) : World :=
  { World.holding Tryd.prog os ⟨#[], #[], []⟩ with heap := (((World.holding Tryd.prog os ⟨#[], #[], []⟩).heap.modify 2 (putCells Rows.laid_internal_strconv_uint64pow10)).modify 3 (putCells Rows.laid_math_bits_deBruijn32tab)).modify 4 (putCells Rows.laid_math_bits_deBruijn64tab) }
end B
end Go.Proofs.YtbcmmamipjbfpaaDoor
