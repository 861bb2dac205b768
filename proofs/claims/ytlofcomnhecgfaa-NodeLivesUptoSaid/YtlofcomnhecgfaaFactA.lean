/- A closed fact of the program, for the rows. -/
import Derived.Test.YtlofcomnhecgfaaRows
import Derived.KernelRfl
import Derived.JoinedCond
namespace Go.Proofs.Ytlofcomnhecgfaa
namespace Facts
theorem mayEnter : Try.pinned.checked.prog.mayEnter = true := by kernel_rfl
end Facts
end Go.Proofs.Ytlofcomnhecgfaa
