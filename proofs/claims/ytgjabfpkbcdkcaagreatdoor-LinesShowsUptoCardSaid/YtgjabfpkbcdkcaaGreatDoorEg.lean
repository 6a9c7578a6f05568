/- maps.Clone of the disk's files, for the evaluator. -/
import Derived.Test.YtgjabfpkbcdkcaaGreatDoorEf
import Derived.Shelf.SlMaps.Clone
import Derived.Test.YtgjabfpkbcdkcaaGreatDoorBase
namespace Go.Proofs.YtgjabfpkbcdkcaaGreatDoor
set_option linter.unusedVariables false
set_option linter.unusedSimpArgs false
open Go.RowKit
open Go.Maps Go.WideMaps
theorem evFilesT : Tryz.prog.underlying 144 = some (.map 9 55) := Tryz.underlying144
set_option maxRecDepth 20000 in
set_option maxHeartbeats 4000000 in
theorem evClone {b : Nat} {es : Array MapEntry} {clock : Nat} (w : World) (hb : w.heap[b]? = some (.map es clock)) :
    Calls Tryz.prog 191 #[.map (some b)] w fun e w' => e = .returned (.map (some w.heap.size)) ∧ w' = w.alloc (.map es clock) := by
  have hq := fun w => run_eql_map_nil_sl (P := Tryz.prog) w 144 _ _ (some b) evFilesT
  go_enter Tryz.func191, Tryz.ntmps191
  go_wp2
  rw [run_callFunc_extern Tryz.func285 (by kernel_rfl) (by kernel_rfl) (by kernel_rfl) (e := Extern.MapsClone.clone) (by kernel_rfl), run_maps_clone_sl w 144 hb]
  simp only [Result.andThen]
  rw [Oper.upon_value]
  go_wp2
  rw [run_typeAssert_map_sl _ 144 20 _ _ _ evFilesT]
  simp only [Result.andThen]
  rw [Oper.upon_value]
  go_wp2
  go_ret
  exact ⟨rfl, rfl⟩
end Go.Proofs.YtgjabfpkbcdkcaaGreatDoor
