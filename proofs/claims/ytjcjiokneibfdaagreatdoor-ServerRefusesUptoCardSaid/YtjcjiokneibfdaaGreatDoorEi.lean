/- The library's own functions that closed calls meet. -/
import Derived.Test.YtjcjiokneibfdaaGreatDoorEh
namespace Go.Proofs.YtjcjiokneibfdaaGreatDoor
set_option linter.unusedVariables false
set_option linter.unusedSimpArgs false
noncomputable def evExt (f : FuncId) : Option (List Value → Option Value) := cond (Nat.beq f 340) (some (extPure Extern.BytealgIndexByte.indexByte)) none
theorem isExt3 : IsExt 340 Extern.BytealgIndexByte.indexByte := ⟨by kernel_rfl, by kernel_rfl, by kernel_rfl, by kernel_rfl, by kernel_rfl⟩
theorem evExt_ok : ExtOk evExt := by
  intro f g args v hf hv E w hg
  unfold evExt at hf
  cases h3 : Nat.beq f 340 with
  | true =>
    rw [h3, cond_true] at hf
    obtain rfl := Option.some.inj hf
    rw [Nat.eq_of_beq_eq_true h3]
    exact extPure_ok isExt3 hv E w
  | false => rw [h3, cond_false] at hf; cases hf
def evMask : Nat := 0
theorem evMixed : Tryz.prog.follows .mixedOrders = true := by kernel_rfl
theorem evGlobals : Tryz.prog.globals.size = 3 := by kernel_rfl
theorem evAll : okAll 3 evMask Tryz.prog.funcs.toList 0 = true := by kernel_rfl
end Go.Proofs.YtjcjiokneibfdaaGreatDoor
