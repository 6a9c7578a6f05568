/- The finders of package store: the place of the first one that is looked for. (printed by wip/gen/at.py) -/
import Derived.Test.YtlfpfhdagkkliaaDoorStore
import Derived.Test.YtlfpfhdagkkliaaDoorRows
import Derived.StillTailTactics
namespace Go.Proofs.YtlfpfhdagkkliaaDoor
set_option linter.unusedVariables false
open Go.RowKit

end Go.Proofs.YtlfpfhdagkkliaaDoor
