/- Facts of the program that all rows of this seat need. -/
import Derived.Test.YtndpgjcmmjeoiaaGreatRows
import Derived.JoinedOf
import Derived.KernelRfl
set_option maxRecDepth 100000
namespace Go.Proofs.YtndpgjcmmjeoiaaGreat
open Go
theorem rk_laid : laidOutB Tryz.pinned.checked.prog = true := by kernel_rfl
theorem rk_maps : mapsRowed Tryz.pinned.checked.prog = true := by kernel_rfl
theorem rk_heard : Tryz.pinned.checked.prog.stopsHeard = true := by kernel_rfl
theorem rk_mayEnter : Tryz.pinned.checked.prog.mayEnter = true := by kernel_rfl
end Go.Proofs.YtndpgjcmmjeoiaaGreat
