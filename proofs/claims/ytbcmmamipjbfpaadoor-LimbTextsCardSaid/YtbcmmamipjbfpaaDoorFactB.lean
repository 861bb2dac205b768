/- A closed fact of the program, for the rows. -/
import Derived.Test.YtbcmmamipjbfpaaDoorRows
import Derived.KernelRfl
import Derived.JoinedCond
namespace Go.Proofs.YtbcmmamipjbfpaaDoor
namespace Facts
theorem make : (Tryd.pinned.checked.prog.make == some Rows.limbOrderRow.make) = true := by kernel_rfl
end Facts
end Go.Proofs.YtbcmmamipjbfpaaDoor
