/- The live runs of law 22 answer true. -/
import Derived.Test.YtgjabfpkbcdkcaaGreatDoorEiL
namespace Go.Proofs.YtgjabfpkbcdkcaaGreatDoor
set_option linter.unusedVariables false
theorem evLives22 : isT (callE evExt (fnsM evMask) evHook 100 8 [] ⟨8, .e⟩) = true := by kernel_rfl
/-- coxswainlaw22.lives() answers true, in whatever world, and changes nothing that was there. -/
theorem lives22 (w : World) : Calls Tryz.prog 8 #[] w fun e w' => e = .returned (.bool true) ∧ w'.os = w.os ∧ w'.tape = w.tape ∧ w'.output = w.output ∧ w.heap.size ≤ w'.heap.size ∧ ∀ b, b < w.heap.size → w'.heap[b]? = w.heap[b]? :=
  closed_true evGlobals evMixed evAll evExt_ok evLives22 w
end Go.Proofs.YtgjabfpkbcdkcaaGreatDoor
