/- A closed fact of the program, for the rows. -/
import Derived.Test.YtlofcomnhecgfaaRows
import Derived.KernelRfl
import Derived.JoinedCond
namespace Go.Proofs.Ytlofcomnhecgfaa
namespace Facts
theorem make : (Try.pinned.checked.prog.make == some Rows.wireLensUptoRow.make) = true := by kernel_rfl
end Facts
end Go.Proofs.Ytlofcomnhecgfaa
