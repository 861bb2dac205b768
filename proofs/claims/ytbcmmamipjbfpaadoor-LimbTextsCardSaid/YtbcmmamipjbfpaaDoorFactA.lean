/- A closed fact of the program, for the rows. -/
import Derived.Test.YtbcmmamipjbfpaaDoorRows
import Derived.KernelRfl
import Derived.JoinedCond
namespace Go.Proofs.YtbcmmamipjbfpaaDoor
namespace Facts
theorem mayEnter : Tryd.pinned.checked.prog.mayEnter = true := by kernel_rfl
end Facts
end Go.Proofs.YtbcmmamipjbfpaaDoor
