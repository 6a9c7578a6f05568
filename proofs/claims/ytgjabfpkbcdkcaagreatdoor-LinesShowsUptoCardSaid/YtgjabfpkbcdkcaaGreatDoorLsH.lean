/- The card's closed facts, each a theorem of its own. -/
import Derived.Test.YtgjabfpkbcdkcaaGreatDoorCards
import Derived.SevenTiedAt
namespace Go.Proofs.YtgjabfpkbcdkcaaGreatDoor
open Go
set_option maxRecDepth 100000
theorem cardWf : Rows.linesShowsUptoRow.wfByText (Rows.OpenSpec.upto Rows.linesShowsSpec) = true := by kernel_rfl
theorem cardMain : Tryz.pinned.checked.prog.mainIs = some (Rows.linesShowsUptoCard.stood.harness.1, Rows.linesShowsUptoCard.stood.harness.2.toList) := by kernel_rfl
theorem goes_none (P : Program) (h : P.funcs.any Func.goes = false) (f : FuncId) : P.goes f = false := by
  have h1 : ∀ g : FuncId, (P.funcs[g]?).any Func.goes = false := fun g => by
    cases hg : P.funcs[g]? with
    | none => rfl
    | some fn =>
      rw [Option.any_some]
      have hm := Array.mem_of_getElem? hg
      cases hf : fn.goes with
      | false => rfl
      | true =>
        have := Array.any_eq_true'.2 ⟨fn, hm, hf⟩
        rw [h] at this
        cases this
  unfold Program.goes
  rw [h, Bool.and_false, Bool.or_false]
  simp [h1]
theorem goesAt_none (P : Program) (h : P.funcs.any Func.goes = false) (func : String) : P.goesAt .entering func = false := by
  unfold Program.goesAt Program.goesFrom
  cases P.funcNamed func with
  | none => rfl
  | some f => simp [goes_none P h f]
theorem noGoes : Tryz.prog.funcs.any Func.goes = false := by kernel_rfl
theorem cardGoes : false = Rows.linesShowsUptoRow.goesBy Tryz.pinned.checked.prog := (goesAt_none Tryz.prog noGoes Rows.linesShowsUptoRow.func).symm
end Go.Proofs.YtgjabfpkbcdkcaaGreatDoor
