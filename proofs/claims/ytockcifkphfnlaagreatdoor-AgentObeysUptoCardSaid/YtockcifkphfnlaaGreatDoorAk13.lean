/- The disk's Read and Sync; maps.Clone of files. -/
import Derived.Test.YtockcifkphfnlaaGreatDoorAk11
import Derived.Shelf.SlMaps.Clone
namespace Go.Proofs.YtockcifkphfnlaaGreatDoor
set_option linter.unusedVariables false
set_option linter.unusedSimpArgs false
open Go.RowKit
open Go.Maps Go.WideMaps
variable {M : Nat → Prop}

set_option maxRecDepth 20000 in
set_option maxHeartbeats 8000000 in
theorem dkRead {Ok : Nat → Prop} {b : Nat} {d : Dk.DiskD} (s : Dk.Str) (w : World) (h : DiskIs M w Ok b d) (hg : Dk.Good d) (hs : s.length ≤ maxLen) :
    Calls Tryz.prog 20 #[.pointer (some ⟨b, 0, none⟩), strV s] w fun e w' => ∃ v, e = .returned (.tuple #[v, .int .i64 (d.read s).2]) ∧ BytesV w' (fun g => w.heap.size ≤ g) v (d.read s).1 ∧ Ext Nothing w w' := by
  obtain ⟨bd, bn, AD, nD, cD, L, ys, h⟩ := h.out
  have hsz : ∀ x ∈ [s], x.length ≤ maxLen := fun x hx => by rw [List.mem_singleton.1 hx]; exact hs
  have ha1 : Ext Nothing w (w.alloc (.cells #[strV s] 9)) := Ext.auto
  have hnm : Sl (w.alloc (.cells #[strV s] 9)) 1 (some ⟨w.heap.size, 0, none⟩) 1 ([s].map fun x => [strV x]) := Sl.of_blk (t := 9) (cs := #[strV s]) _ (fun _ => rfl) (Blk.new _ _ _) rfl rfl
  go_enter Tryz.func20, Tryz.ntmps20
  go_upto_region 2 with (first | go_skip | go_guarded | (go_at_call 29; (with_reducible refine (dkAsk false (some ⟨w.heap.size, 0, none⟩) 1 1 [s] _ (h.keep0 ha1) hnm (by decide) hsz).mono ?_); rintro e w2 ⟨rfl, hx2⟩))
  have h2 := (h.keep0 ha1).keep0 hx2
  have hxa := ha1.tr hx2
  have HE := Lib.hid (show askF [s] false d.left = if Dk.nameOk s then 0 else 1 by unfold askF; simp)
  rw [HE.out]
  clear h hx2 hnm
  cases hN : Dk.nameOk s with
  | false =>
    have HR := Lib.hid (show d.read s = ([], 1) by unfold Dk.DiskD.read; rw [if_pos hN])
    clear hN
    rw [if_neg (by simp)]
    go_wp2
    go_ret2
    exact ⟨_, by rw [HR.out]; rfl, by rw [HR.out]; exact BytesV.nil _ _, hxa⟩
  | true =>
    have HN := Lib.hid hN
    clear hN
    rw [if_pos rfl]
    have hfo := hg.files
    obtain ⟨v0, hv0, hlk⟩ := fm_look h2.now hfo.asc hs
    have hlk := hlk w2 (Ext.refl _ _) true
    rw [if_pos rfl] at hlk
    have k1 : w2.cell? ⟨b, 1, none⟩ = some (.map (some bn)) := h2.blk.cell 1
    have HFL := Lib.hid (Dk.find_len hfo (s := s))
    cases hf : Dk.find d.files s with
    | none =>
      have HR := Lib.hid (show d.read s = ([], 12) by unfold Dk.DiskD.read; rw [if_neg (by rw [HN.out]; simp), hf])
      rw [hf] at hlk
      clear hf
      rw [show (none : Option (List UInt8)).isSome = false from rfl] at hlk
      go_wp2
      go_ret2
      exact ⟨_, by rw [HR.out]; rfl, by rw [HR.out]; exact BytesV.nil _ _, hxa⟩
    | some l =>
      have HR := Lib.hid (show d.read s = (l, 0) by unfold Dk.DiskD.read; rw [if_neg (by rw [HN.out]; simp), hf])
      rw [hf] at hlk hv0
      have hll : l.length ≤ 1048576 := by have h9 := HFL.out; rw [hf] at h9; exact h9
      clear hf HFL
      rw [show (some l : Option (List UInt8)).isSome = true from rfl] at hlk
      obtain ⟨A0, n0, c0, rfl, ⟨hs0, _⟩, _⟩ := hv0
      have hs0 : Sl w2 1 A0 n0 (l.map bCell) := hs0
      have hn0 : n0 ≤ 33554432 := by have := hs0.len; omega
      go_wp2_with (first | go_skip | go_guarded | (go_at_call 30; (with_reducible refine (bytesClone A0 n0 c0 l w2 hs0 hn0).mono ?_); rintro e w3 ⟨v3, rfl, hv3, hx3⟩))
      go_ret2
      have hz := hxa.size
      exact ⟨_, by rw [HR.out]; rfl, by rw [HR.out]; exact hv3.mono (fun g _ hg => by have h9 : w2.heap.size ≤ g := hg; show w.heap.size ≤ g; omega), hxa.tr hx3⟩
set_option maxRecDepth 20000 in
set_option maxHeartbeats 4000000 in
theorem mapsClone {Ok : Nat → Prop} {b : Nat} {F : Dk.Files} (w : World) (h : FM w Ok b F) :
    Calls Tryz.prog 28 #[.map (some b)] w fun e w' => e = .returned (.map (some w.heap.size)) ∧ FM w' Ok w.heap.size F ∧ Ext Nothing w w' := by
  obtain ⟨Lm, ⟨es, clock, hb, m1, m2, m3⟩, h2, h3⟩ := h.out
  have hq := fun w => run_eql_map_nil_sl (P := Tryz.prog) w 87 _ _ (some b) filesT
  go_enter Tryz.func28, Tryz.ntmps28
  go_wp2
  rw [run_callFunc_extern Tryz.func40 (by kernel_rfl) (by kernel_rfl) (by kernel_rfl) (e := Extern.MapsClone.clone) (by kernel_rfl), run_maps_clone_sl w 87 hb]
  simp only [Result.andThen]
  rw [Oper.upon_value]
  go_wp2
  rw [run_typeAssert_map_sl _ 87 20 _ _ _ filesT]
  simp only [Result.andThen]
  rw [Oper.upon_value]
  go_wp2
  go_ret
  have hst : StB (w.alloc (.map es clock)) w.heap.size := by
    obtain ⟨es', clock', s1, s2⟩ := h.st
    rw [hb] at s1
    injection s1 with s1
    injection s1 with s1 s3
    subst s1 s3
    exact ⟨es, clock, heap_alloc_new w _, s2⟩
  exact ⟨rfl, ⟨⟨Lm, ⟨es, clock, heap_alloc_new w _, m1, m2, m3⟩, fun p hp => (h2 p hp).keep (S := Nothing) Ext.auto Off.none, h3⟩, hst⟩, Ext.auto⟩
end Go.Proofs.YtockcifkphfnlaaGreatDoor
