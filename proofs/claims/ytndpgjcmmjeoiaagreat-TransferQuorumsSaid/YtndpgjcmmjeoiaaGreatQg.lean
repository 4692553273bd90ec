/- Facts of the program that all rows of this seat need. -/
import Derived.Test.YtndpgjcmmjeoiaaGreatRows
import Derived.JoinedOf
import Derived.KernelRfl
set_option maxRecDepth 100000
namespace Go.Proofs.YtndpgjcmmjeoiaaGreat
open Go
theorem rk_make : (Tryz.pinned.checked.prog.make == some Rows.transferReportedRow.make) = true := by kernel_rfl
end Go.Proofs.YtndpgjcmmjeoiaaGreat
