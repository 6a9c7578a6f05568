/- The live runs of law 19 answer true. -/
import Derived.Test.YtjcjiokneibfdaaGreatDoorEi
namespace Go.Proofs.YtjcjiokneibfdaaGreatDoor
set_option linter.unusedVariables false
set_option linter.unusedSimpArgs false
theorem evLives19 : isT (callE evExt (fnsM evMask) evHook 100 10 [] ⟨3, .e⟩) = true := by kernel_rfl
/-- coxswainlaw19.lives() answers true, in whatever world, and changes nothing that was there. -/
theorem lives19 (w : World) : Calls Tryz.prog 10 #[] w fun e w' => e = .returned (.bool true) ∧ w'.os = w.os ∧ w'.tape = w.tape ∧ w'.output = w.output ∧ w.heap.size ≤ w'.heap.size ∧ ∀ b, b < w.heap.size → w'.heap[b]? = w.heap[b]? :=
  closed_true evGlobals evMixed evAll evExt_ok evLives19 w
end Go.Proofs.YtjcjiokneibfdaaGreatDoor
