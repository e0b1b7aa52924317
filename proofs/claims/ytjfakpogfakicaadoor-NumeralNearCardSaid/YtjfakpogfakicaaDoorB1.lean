import Derived.Test.YtjfakpogfakicaaDoorT
import Derived.Shelf.RegionOpenPlain
import Derived.Lib.Strings
import Derived.Lib.Slices
import Derived.Lib.Walk
import Derived.Lib.Builder
import Derived.Lib.UnsafeStr
import Derived.WalkKit
import Derived.Laws.Externs
set_option linter.unusedVariables false
set_option linter.unusedSimpArgs false
namespace Go.Proofs.YtjfakpogfakicaaDoor
open Go Go.RowKit Go.Shelf
theorem b_t137 : Tryd.prog.underlying 92 = some .unsafePointer := by kernel_rfl
theorem b_t55 : Tryd.prog.underlying 37 = some (.slice 5) := by kernel_rfl
theorem b_t118 : Tryd.prog.underlying 87 = some (.pointer 5) := by kernel_rfl
theorem b_cells5 : Tryd.prog.cellsOf 5 = 1 := by kernel_rfl

end Go.Proofs.YtjfakpogfakicaaDoor

