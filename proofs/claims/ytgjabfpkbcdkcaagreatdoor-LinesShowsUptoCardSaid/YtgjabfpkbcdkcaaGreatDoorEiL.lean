/- The library's own functions that closed calls meet. -/
import Derived.Test.YtgjabfpkbcdkcaaGreatDoorEh
namespace Go.Proofs.YtgjabfpkbcdkcaaGreatDoor
set_option linter.unusedVariables false
set_option linter.unusedSimpArgs false
noncomputable def evExt (f : FuncId) : Option (List Value → Option Value) :=
  cond (Nat.beq f 50) (some extSame) (cond (Nat.beq f 97) (some (extPure Extern.BytealgCount.count)) (cond (Nat.beq f 194) (some (extPure Extern.BytealgIndexByte.indexByte)) none))
theorem isExt1 : IsExt 50 Extern.AbiNoEscape.same := ⟨by kernel_rfl, by kernel_rfl, by kernel_rfl, by kernel_rfl, by kernel_rfl⟩
theorem isExt2 : IsExt 97 Extern.BytealgCount.count := ⟨by kernel_rfl, by kernel_rfl, by kernel_rfl, by kernel_rfl, by kernel_rfl⟩
theorem isExt3 : IsExt 194 Extern.BytealgIndexByte.indexByte := ⟨by kernel_rfl, by kernel_rfl, by kernel_rfl, by kernel_rfl, by kernel_rfl⟩
theorem evExt_ok : ExtOk evExt := by
  intro f g args v hf hv E w hg
  unfold evExt at hf
  cases h1 : Nat.beq f 50 with
  | true =>
    rw [h1, cond_true] at hf
    obtain rfl := Option.some.inj hf
    rw [Nat.eq_of_beq_eq_true h1]
    exact extSame_ok isExt1 hv E w hg
  | false =>
    rw [h1, cond_false] at hf
    cases h2 : Nat.beq f 97 with
    | true =>
      rw [h2, cond_true] at hf
      obtain rfl := Option.some.inj hf
      rw [Nat.eq_of_beq_eq_true h2]
      exact extPure_ok isExt2 hv E w
    | false =>
      rw [h2, cond_false] at hf
      cases h3 : Nat.beq f 194 with
      | true =>
        rw [h3, cond_true] at hf
        obtain rfl := Option.some.inj hf
        rw [Nat.eq_of_beq_eq_true h3]
        exact extPure_ok isExt3 hv E w
      | false => rw [h3, cond_false] at hf; cases hf
/-- functions that range over functions are not evaluated -/
def evMask : Nat := Nat.lor (Nat.shiftLeft 1 347) (Nat.lor (Nat.shiftLeft 1 370) (Nat.shiftLeft 1 419))
theorem evMixed : Tryz.prog.follows .mixedOrders = true := by kernel_rfl
theorem evGlobals : Tryz.prog.globals.size = 8 := by kernel_rfl
theorem evAll : okAll 8 evMask Tryz.prog.funcs.toList 0 = true := by kernel_rfl
end Go.Proofs.YtgjabfpkbcdkcaaGreatDoor
