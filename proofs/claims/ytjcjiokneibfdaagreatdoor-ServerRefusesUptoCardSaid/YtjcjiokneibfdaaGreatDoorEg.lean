/- maps.Clone of the disk's files, for the evaluator. -/
import Derived.Test.YtjcjiokneibfdaaGreatDoorEf
import Derived.Shelf.SlMaps.Clone
import Derived.Test.YtjcjiokneibfdaaGreatDoorBase
namespace Go.Proofs.YtjcjiokneibfdaaGreatDoor
set_option linter.unusedVariables false
set_option linter.unusedSimpArgs false
open Go.RowKit
open Go.Maps Go.WideMaps
theorem evFilesT : Tryz.prog.underlying 94 = some (.map 9 69) := Tryz.underlying94
set_option maxRecDepth 20000 in
set_option maxHeartbeats 4000000 in
theorem evClone {b : Nat} {es : Array MapEntry} {clock : Nat} (w : World) (hb : w.heap[b]? = some (.map es clock)) :
    Calls Tryz.prog 89 #[.map (some b)] w fun e w' => e = .returned (.map (some w.heap.size)) ∧ w' = w.alloc (.map es clock) := by
  have hq := fun w => run_eql_map_nil_sl (P := Tryz.prog) w 94 _ _ (some b) evFilesT
  go_enter Tryz.func89, Tryz.ntmps89
  go_wp2
  rw [run_callFunc_extern Tryz.func159 (by kernel_rfl) (by kernel_rfl) (by kernel_rfl) (e := Extern.MapsClone.clone) (by kernel_rfl), run_maps_clone_sl w 94 hb]
  simp only [Result.andThen]
  rw [Oper.upon_value]
  go_wp2
  rw [run_typeAssert_map_sl _ 94 20 _ _ _ evFilesT]
  simp only [Result.andThen]
  rw [Oper.upon_value]
  go_wp2
  go_ret
  exact ⟨rfl, rfl⟩
end Go.Proofs.YtjcjiokneibfdaaGreatDoor
