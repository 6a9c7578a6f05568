/- The disk's Sync. -/
import Derived.Test.YtockcifkphfnlaaGreatDoorAk13
namespace Go.Proofs.YtockcifkphfnlaaGreatDoor
set_option linter.unusedVariables false
set_option linter.unusedSimpArgs false
open Go.RowKit
open Go.Maps Go.WideMaps
variable {M : Nat → Prop}

set_option maxRecDepth 20000 in
set_option maxHeartbeats 8000000 in
theorem dkSync {Ok : Nat → Prop} {b : Nat} {d : Dk.DiskD} (w : World) (h : DiskIs M w Ok b d) (hMM : ∀ q, M q → q < w.heap.size) :
    Calls Tryz.prog 36 #[.pointer (some ⟨b, 0, none⟩)] w fun e w' => e = .returned (.int .i64 d.sync.2) ∧ DiskIs M w' Ok b d.sync.1 ∧ Ext (DkB M b w) w w' := by
  obtain ⟨bd, bn, AD, nD, cD, L, ys, h⟩ := h.out
  go_enter Tryz.func36, Tryz.ntmps36
  go_upto_region 2 with (first | go_skip | go_guarded | (go_at_call 29; (with_reducible refine (dkAsk true none 0 0 [] w h (Sl.nil _ _ _) (by decide) (by simp)).mono ?_); rintro e w2 ⟨rfl, hx2⟩))
  have h2 := h.keep0 hx2
  have HE := Lib.hid (show askF [] true d.left = if decide (d.left = 0) then 11 else 0 by unfold askF; simp)
  rw [HE.out]
  clear h
  cases hZ : decide (d.left = 0) with
  | true =>
    have HR := Lib.hid (show d.sync = (d, 11) by unfold Dk.DiskD.sync; rw [if_pos (of_decide_eq_true hZ)])
    clear hZ
    rw [if_pos rfl]
    go_wp2
    go_ret
    exact ⟨by rw [HR.out]; rfl, by rw [HR.out]; exact ⟨bd, bn, AD, nD, cD, L, ys, h2⟩, hx2.mono (fun _ _ e => e.elim)⟩
  | false =>
    have HR := Lib.hid (show d.sync = (Dk.DiskD.counted { d with dur := d.files, done := [] }, 0) by unfold Dk.DiskD.sync; rw [if_neg (of_decide_eq_false hZ)])
    clear hZ
    rw [if_neg (by simp)]
    have k1 : w2.cell? ⟨b, 1, none⟩ = some (.map (some bn)) := h2.blk.cell 1
    go_upto_region 5 with (first | go_skip | go_guarded | (go_at_call 28; (with_reducible refine (mapsClone w2 h2.now).mono ?_); rintro e w3 ⟨rfl, hF3, hx3⟩; have h3 := h2.keep0 hx3; have k0 : w3.cell? ⟨b, 0, none⟩ = some (.map (some bd)) := h3.blk.cell 0; have f0 : w3.frozen? ⟨b, 0, none⟩ = false := h3.blk.frozen 0; have k2 : w3.cell? ⟨b, 2, none⟩ = some (.slice AD nD cD) := h3.blk.cell 2; have f2 : w3.frozen? ⟨b, 2, none⟩ = false := h3.blk.frozen 2))
    have hx4 : Ext (fun q => q = b) w3 ((w3.setCell ⟨b, 0, none⟩ (.map (some w2.heap.size))).setCell ⟨b, 2, none⟩ (.slice none 0 0)) := (Ext.set1 w3 b 0 _).trans (Ext.set1 _ b 2 _) (fun _ _ e => e)
    have hB4 := (h3.blk.set_ 0 (.map (some w2.heap.size))).set_ 2 (.slice none 0 0)
    have hoff : Off w3 (fun q => q = b) Ok := fun q cs e hq => by subst e; exact absurd rfl (Blk.ne h3.blk hq (by decide))
    have hA4 : DiskAt M ((w3.setCell ⟨b, 0, none⟩ (.map (some w2.heap.size))).setCell ⟨b, 2, none⟩ (.slice none 0 0)) Ok b w2.heap.size bn none 0 0 L [] { d with dur := d.files, done := [] } :=
      ⟨hB4, h3.left, h3.l0, h3.l1, hF3.keep hx4 (fun e => hF3.ne h3.blk e) hoff, h3.now.keep hx4 (fun e => h3.now.ne h3.blk e) hoff, ⟨by have := h2.now.lt; omega, by have := h2.blk.lt; omega, h2.ne.2.2.1, fun e => by have := hMM _ e; have := hx2.size; omega, h2.ne.2.2.2.2⟩, World.ownsRow_nil _ _ _ _, rfl, rfl, by simp⟩
    have hK : Ext (DkB M b w) w ((w3.setCell ⟨b, 0, none⟩ (.map (some w2.heap.size))).setCell ⟨b, 2, none⟩ (.slice none 0 0)) := DkB.trans ((hx2.tr hx3).mono (fun _ _ e => e.elim)) (h3.dkb hx4)
    generalize ((w3.setCell ⟨b, 0, none⟩ (.map (some w2.heap.size))).setCell ⟨b, 2, none⟩ (.slice none 0 0)) = w4 at hA4 hK ⊢
    clear k0 f0 k2 f2 k1 hx4 hB4 hoff h3 hF3 hx3
    go_upto_region 6 with (first | go_skip | go_guarded | (go_at_call 52; (with_reducible refine (dkCounted w4 hA4).mono ?_); rintro e w5 ⟨rfl, ⟨L5, hA5⟩, hx5⟩))
    go_wp2
    go_ret
    exact ⟨by rw [HR.out]; rfl, by rw [HR.out]; exact ⟨_, _, _, _, _, L5, _, hA5⟩, DkB.trans hK (hA4.dkb hx5)⟩
end Go.Proofs.YtockcifkphfnlaaGreatDoor
