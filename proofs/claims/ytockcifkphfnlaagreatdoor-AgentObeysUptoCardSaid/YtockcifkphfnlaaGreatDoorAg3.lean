/- The machine's yields, Epoch, Exit. -/
import Derived.Test.YtockcifkphfnlaaGreatDoorAg2
namespace Go.Proofs.YtockcifkphfnlaaGreatDoor
set_option linter.unusedVariables false
set_option linter.unusedSimpArgs false
open Go.RowKit

theorem beats8 {l : List (Int × Int)} (h : l.length = 8) : ∃ p0 p1 p2 p3 p4 p5 p6 p7, l = [p0, p1, p2, p3, p4, p5, p6, p7] := by
  match l, h with
  | [p0, p1, p2, p3, p4, p5, p6, p7], _ => exact ⟨p0, p1, p2, p3, p4, p5, p6, p7, rfl⟩
section
variable {b mt : Nat} {s : Ag.AgD}
theorem ag_c33 (h : s.beats.length = 8) : (s.cells b mt)[33]? = some (.map (some mt)) := by
  obtain ⟨p0, p1, p2, p3, p4, p5, p6, p7, e⟩ := beats8 h
  unfold Ag.AgD.cells
  rw [e]
  rfl
theorem ag_c34 (h : s.beats.length = 8) : (s.cells b mt)[34]? = some (.int .i64 s.count) := by
  obtain ⟨p0, p1, p2, p3, p4, p5, p6, p7, e⟩ := beats8 h
  unfold Ag.AgD.cells
  rw [e]
  rfl
theorem ag_c35 (h : s.beats.length = 8) : (s.cells b mt)[35]? = some (.int .i64 s.hint) := by
  obtain ⟨p0, p1, p2, p3, p4, p5, p6, p7, e⟩ := beats8 h
  unfold Ag.AgD.cells
  rw [e]
  rfl
theorem ag_s33 (h : s.beats.length = 8) (m2 : Nat) : (s.cells b mt).setIfInBounds 33 (.map (some m2)) = s.cells b m2 := by
  obtain ⟨p0, p1, p2, p3, p4, p5, p6, p7, e⟩ := beats8 h
  unfold Ag.AgD.cells
  rw [e]
  rfl
theorem ag_s34 (h : s.beats.length = 8) (x : Int) : (s.cells b mt).setIfInBounds 34 (.int .i64 x) = Ag.AgD.cells { s with count := x } b mt := by
  obtain ⟨p0, p1, p2, p3, p4, p5, p6, p7, e⟩ := beats8 h
  unfold Ag.AgD.cells
  rw [e]
  rfl
theorem ag_s35 (h : s.beats.length = 8) (x : Int) : (s.cells b mt).setIfInBounds 35 (.int .i64 x) = Ag.AgD.cells { s with hint := x } b mt := by
  obtain ⟨p0, p1, p2, p3, p4, p5, p6, p7, e⟩ := beats8 h
  unfold Ag.AgD.cells
  rw [e]
  rfl
theorem ag_size (h : s.beats.length = 8) : (s.cells b mt).size = 36 := by
  obtain ⟨p0, p1, p2, p3, p4, p5, p6, p7, e⟩ := beats8 h
  unfold Ag.AgD.cells
  rw [e]
  rfl
theorem ag_beats (h : s.beats.length = 8) : ((s.cells b mt).toList.take 17 ++ List.replicate 16 (Value.int .i64 0) ++ (s.cells b mt).toList.drop (17 + 16)).toArray = Ag.AgD.cells { s with beats := Ag.noBeats } b mt := by
  obtain ⟨p0, p1, p2, p3, p4, p5, p6, p7, e⟩ := beats8 h
  unfold Ag.AgD.cells
  rw [e]
  rfl
end
set_option maxRecDepth 20000 in
set_option maxHeartbeats 8000000 in
theorem agYields {Ok : Nat → Prop} {B a b mt : Nat} {s : Ag.AgD} {d : Dk.DiskD} (w : World) (h : AgIs w Ok B a b mt s d) (htab : HTabB B w) (hb0 : 0 ≤ s.boot) (hb1 : s.boot ≤ 1099511627776) (hdn : d.done.length < 67108863) :
    Calls Tryz.prog 24 #[.pointer (some ⟨a, 0, none⟩)] w fun e w' => e = .returned (.int .i64 (Ag.yields s d).2.2) ∧ AgIs w' (OkN w Ok) B a b mt (Ag.yields s d).1 (Ag.yields s d).2.1 ∧ Ext (AgB B w) w w' := by
  have k33 : w.cell? ⟨a, 33, none⟩ = some (.map (some mt)) := by rw [h.blk.cell]; exact ag_c33 h.beats
  go_enter Tryz.func24, Tryz.ntmps24
  go_upto_region 2 with (first | go_skip | go_guarded | ((with_reducible refine isBu .clear rfl ?_); refine wpList_tclear rfl _ rfl h.tasks rfl ?_; intro w1 hT1 hx1))
  have hI1 := h.map hx1 hT1
  have hK1 := h.agm hx1
  have htab1 := htab.step hK1
  have hz1 := hx1.size
  clear k33 hx1 hT1 htab
  have f13 : w1.frozen? ⟨a, 13, none⟩ = false := hI1.blk.frozen 13
  have f14 : w1.frozen? ⟨a, 14, none⟩ = false := hI1.blk.frozen 14
  have f15 : w1.frozen? ⟨a, 15, none⟩ = false := hI1.blk.frozen 15
  have f16 : w1.frozen? ⟨a, 16, none⟩ = false := hI1.blk.frozen 16
  have k13 : w1.cell? ⟨a, 13, none⟩ = some (.int .i64 s.epoch) := hI1.blk.cell 13
  have k14 : w1.cell? ⟨a, 14, none⟩ = some (.int .i64 s.lease) := hI1.blk.cell 14
  have k15 : w1.cell? ⟨a, 15, none⟩ = some (.int .i64 s.seq) := hI1.blk.cell 15
  have k16 : w1.cell? ⟨a, 16, none⟩ = some (.int .i64 s.taken) := hI1.blk.cell 16
  have hB5 : Blk ((((w1.setCell ⟨a, 13, none⟩ (.int .i64 0)).setCell ⟨a, 14, none⟩ (.int .i64 0)).setCell ⟨a, 15, none⟩ (.int .i64 0)).setCell ⟨a, 16, none⟩ (.int .i64 0)) a 84 (Ag.AgD.cells { s with tasks := [], epoch := 0, lease := 0, seq := 0, taken := 0 } b mt) := (((hI1.blk.set_ 13 (.int .i64 0)).set_ 14 (.int .i64 0)).set_ 15 (.int .i64 0)).set_ 16 (.int .i64 0)
  have hx5 : Ext (fun q => q = a) w1 ((((w1.setCell ⟨a, 13, none⟩ (.int .i64 0)).setCell ⟨a, 14, none⟩ (.int .i64 0)).setCell ⟨a, 15, none⟩ (.int .i64 0)).setCell ⟨a, 16, none⟩ (.int .i64 0)) := (((Ext.set1 w1 a 13 _).trans (Ext.set1 _ a 14 _) (fun _ _ e => e)).trans (Ext.set1 _ a 15 _) (fun _ _ e => e)).trans (Ext.set1 _ a 16 _) (fun _ _ e => e)
  go_upto_region 3 with (first | go_skip | go_guarded | ((with_reducible refine isSt 82 rfl ?_); refine wpList_store_sized rfl 82 _ _ rfl (sz := 16) (by kernel_rfl) a 17 rfl (List.replicate 16 (Value.int .i64 0)).toArray rfl hB5 (by rw [ag_size (by exact h.beats)]; decide) rfl rfl ?_; intro w6 hB6 hx6))
  have hB6' := hB6
  rw [ag_beats (by exact h.beats)] at hB6'
  have hx16 := hx5.trans hx6 (fun _ _ e => e)
  have hI6 := hI1.set (s' := { s with tasks := [], epoch := 0, lease := 0, seq := 0, taken := 0, beats := Ag.noBeats }) hx16 hB6' rfl rfl
  have hK6 := AgB.trans hK1 (hI1.agb hx16)
  have htab6 := htab1.step (hI1.agb hx16)
  have hz6 := hx16.size
  clear f13 f14 f15 f16 k13 k14 k15 k16 hB5 hx5 hB6 hB6' hx6 hx16 hI1 hK1 htab1
  go_wp2_with (first | go_skip | go_guarded | (go_at_call 23; (with_reducible refine (agBoots w6 hI6 htab6 hb0 hb1 hdn).mono ?_); rintro e w7 ⟨rfl, hI7, hx7⟩))
  go_ret
  exact ⟨rfl, hI7.mono (fun q _ e => e.imp id (fun e => by omega)), AgB.trans hK6 hx7⟩
set_option maxRecDepth 20000 in
theorem agEpoch {Ok : Nat → Prop} {B a b mt : Nat} {s : Ag.AgD} {d : Dk.DiskD} (w : World) (h : AgIs w Ok B a b mt s d) :
    Calls Tryz.prog 10 #[.pointer (some ⟨a, 0, none⟩)] w fun e w' => e = .returned (.int .i64 s.epoch) ∧ w' = w := by
  have k13 : w.cell? ⟨a, 13, none⟩ = some (.int .i64 s.epoch) := h.blk.cell 13
  go_enter Tryz.func10, Tryz.ntmps10
  go_wp2
  go_ret
  exact ⟨rfl, rfl⟩
end Go.Proofs.YtockcifkphfnlaaGreatDoor
