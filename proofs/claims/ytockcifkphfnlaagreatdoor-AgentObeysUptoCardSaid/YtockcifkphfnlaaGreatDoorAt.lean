/- The finders of package store: the place of the first one that is looked for. (printed by wip/gen/at.py) -/
import Derived.Test.YtockcifkphfnlaaGreatDoorStore
import Derived.Test.YtockcifkphfnlaaGreatDoorRows
import Derived.StillTailTactics
namespace Go.Proofs.YtockcifkphfnlaaGreatDoor
set_option linter.unusedVariables false
open Go.RowKit

theorem STJob : StructT Tryz.prog 41 7 := .of (by kernel_rfl)
theorem STNode : StructT Tryz.prog 30 8 := .of (by kernel_rfl)
theorem STAlloc : StructT Tryz.prog 67 11 := .of (by kernel_rfl)
end Go.Proofs.YtockcifkphfnlaaGreatDoor
