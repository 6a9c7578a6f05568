/- The row's closed facts: each heavy one a theorem of its own. (printed by wip/gen/lscard.py) -/
import Derived.Test.YtgjabfpkbcdkcaaGreatDoorRows
import Derived.JoinedOf
import Derived.JoinedCond
namespace Go.Proofs.YtgjabfpkbcdkcaaGreatDoor
set_option linter.unusedVariables false
set_option maxRecDepth 100000
open Go

theorem laidOut : laidOutB Tryz.prog = true := by kernel_rfl
theorem jMaps : mapsRowed Tryz.prog = true := by kernel_rfl
theorem jPlace : (Rows.linesShowsUptoRow.inPlace == Tryz.prog.inPlace 5) = true := by kernel_rfl
theorem jUnf : (Rows.linesShowsUptoRow.unfollowed == Tryz.prog.unfollowed 5) = true := by kernel_rfl
theorem jRec : (Rows.linesShowsUptoRow.recurses == Tryz.prog.recurses 5) = true := by kernel_rfl
theorem jNamed : (Rows.linesShowsUptoRow.named == Tryz.prog.varsNamed 5) = true := by kernel_rfl
theorem jLoops : (Rows.linesShowsUptoRow.loops == (Tryz.f5.params.toList ++ Rows.linesShowsSpec.plain.varTypes Tryz.prog).any (Tryz.prog.loopsFrom ·)) = true := by kernel_rfl
theorem jHeard : Tryz.prog.stopsHeard = true := by kernel_rfl
theorem jEnter : Tryz.prog.mayEnter = true := by kernel_rfl
theorem jClosed : joinedFacts Tryz.pinned.checked.prog 5 Tryz.f5 (Rows.OpenSpec.upto Rows.linesShowsSpec).bare Rows.linesShowsUptoRow = true := by
  show joinedFacts Tryz.prog 5 Tryz.f5 Rows.linesShowsSpec Rows.linesShowsUptoRow = true
  unfold joinedFacts
  simp only [Bool.and_eq_true]
  repeat' apply And.intro
  all_goals first
    | (with_reducible exact laidOut)
    | (with_reducible exact jMaps)
    | (with_reducible exact jPlace)
    | (with_reducible exact jUnf)
    | (with_reducible exact jRec)
    | (with_reducible exact jNamed)
    | (with_reducible exact jLoops)
    | (with_reducible exact jHeard)
    | (with_reducible exact jEnter)
    | kernel_rfl
end Go.Proofs.YtgjabfpkbcdkcaaGreatDoor
