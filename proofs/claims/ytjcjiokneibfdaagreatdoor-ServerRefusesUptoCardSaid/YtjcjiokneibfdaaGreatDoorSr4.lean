/- The row's closed facts: each heavy one a theorem of its own. (printed by wip/gen/srread.py) -/
import Derived.Test.YtjcjiokneibfdaaGreatDoorRows
import Derived.JoinedOf
import Derived.JoinedCond
namespace Go.Proofs.YtjcjiokneibfdaaGreatDoor
set_option linter.unusedSimpArgs false
set_option linter.unusedVariables false
set_option maxRecDepth 100000
open Go

theorem laidOut : laidOutB Tryz.prog = true := by kernel_rfl
theorem jMaps : mapsRowed Tryz.prog = true := by kernel_rfl
theorem jPlace : (Rows.serverRefusesUptoRow.inPlace == Tryz.prog.inPlace 3) = true := by kernel_rfl
theorem jUnf : (Rows.serverRefusesUptoRow.unfollowed == Tryz.prog.unfollowed 3) = true := by kernel_rfl
theorem jRec : (Rows.serverRefusesUptoRow.recurses == Tryz.prog.recurses 3) = true := by kernel_rfl
theorem jNamed : (Rows.serverRefusesUptoRow.named == Tryz.prog.varsNamed 3) = true := by kernel_rfl
theorem jLoops : (Rows.serverRefusesUptoRow.loops == (Tryz.f3.params.toList ++ Rows.serverRefusesSpec.plain.varTypes Tryz.prog).any (Tryz.prog.loopsFrom ·)) = true := by kernel_rfl
theorem jHeard : Tryz.prog.stopsHeard = true := by kernel_rfl
theorem jEnter : Tryz.prog.mayEnter = true := by kernel_rfl
theorem jClosed : joinedFacts Tryz.pinned.checked.prog 3 Tryz.f3 (Rows.OpenSpec.upto Rows.serverRefusesSpec).bare Rows.serverRefusesUptoRow = true := by
  show joinedFacts Tryz.prog 3 Tryz.f3 Rows.serverRefusesSpec Rows.serverRefusesUptoRow = true
  unfold joinedFacts
  simp only [Bool.and_eq_true]
  repeat' apply And.intro
  all_goals first
    | (with_reducible exact laidOut)
    | (with_reducible exact jMaps)
    | (with_reducible exact jPlace)
    | (with_reducible exact jUnf)
    | (with_reducible exact jRec)
    | (with_reducible exact jNamed)
    | (with_reducible exact jLoops)
    | (with_reducible exact jHeard)
    | (with_reducible exact jEnter)
    | kernel_rfl
end Go.Proofs.YtjcjiokneibfdaaGreatDoor
