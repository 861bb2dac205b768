/- A closed fact of the program, for the rows. -/
import Derived.Test.YtbcmmamipjbfpaaDoorRows
import Derived.KernelRfl
import Derived.JoinedCond
namespace Go.Proofs.YtbcmmamipjbfpaaDoor
namespace Facts
theorem lifted : (Rows.limbOrderRow.lifted == Tryd.pinned.checked.prog.liftsFinal) = true := by kernel_rfl
end Facts
end Go.Proofs.YtbcmmamipjbfpaaDoor
