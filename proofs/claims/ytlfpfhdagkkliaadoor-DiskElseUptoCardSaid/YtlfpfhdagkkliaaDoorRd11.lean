/- The law's alike: both disks have the same files. -/
import Derived.Test.YtlfpfhdagkkliaaDoorRd10
namespace Go.Proofs.YtlfpfhdagkkliaaDoor
set_option linter.unusedVariables false
set_option linter.unusedSimpArgs false
open Go.RowKit

theorem row_sl {w : World} {base n : Nat} {A : Option Addr} {c : Nat} {ss : List Dk.Str} (h : w.ownsRow base 9 1 (.slice A n c) n (ss.map strV)) (hn : n = ss.length) : Sl w 1 A n (ss.map fun s => [strV s]) :=
  Sl.of_own (f := fun s => [strV s]) (fun _ => rfl) (by rw [← List.map_eq_flatMap]; exact h) hn
theorem read_mem {d : Dk.DiskD} (hg : Dk.Good d) {s : Dk.Str} {l : List UInt8} (h : (s, l) ∈ d.files) : d.read s = (l, 0) := Dk.read_some (hg.files.name _ h) ((Dk.asc_find hg.files.asc).2 h)
set_option maxRecDepth 20000 in
set_option maxHeartbeats 16000000 in
theorem lawAlike {Ok : Nat → Prop} {b r : Nat} {d : Dk.DiskD} (w : World) (h : Both w Ok b r d d) (hdn : d.done.length < 67108864) :
    Calls Tryd.prog 13 #[.pointer (some ⟨b, 0, none⟩), .pointer (some ⟨r, 0, none⟩)] w fun e w' => e = .returned (.bool true) ∧ Ext Nothing w w' := by
  have hg := h.good
  have hR := h.ren
  have hll : d.list.length ≤ 64 := by unfold Dk.DiskD.list; rw [List.length_map]; exact hg.files.few
  obtain ⟨fv, AD, nD, cD, zs, hra⟩ := id h.ref
  go_enter Tryd.func13, Tryd.ntmps13
  go_upto_region 2 with (first | go_skip | go_guarded | (go_at_call 33; (with_reducible refine (rFiles w hra hg hR hdn).mono ?_); rintro e w2 ⟨v2, rfl, ⟨A1, n1, c1, ys, rfl, hF, hys⟩, hx2⟩))
  have hyl : ys.length ≤ 64 := by have := hg.files.few; rw [← hys, List.length_map] at this; exact this
  have hn1 : n1 < 67108864 := by have := hF.sl.len; omega
  have h2 := h.keep0 hx2
  clear hra h
  go_upto_region 4 with (first | go_skip | go_guarded | (go_at_call 22; (with_reducible refine (dkList w2 h2.disk hg).mono ?_); rintro e w3 ⟨v3, rfl, ho3, hx3⟩; obtain ⟨A3, c3, rfl⟩ := own_slice ho3; have hs3 := row_sl ho3 rfl) | (go_at_call 35; (with_reducible refine (rList w3 (h2.ref.keep0 hx3) hg hR hdn).mono ?_); rintro e w4 ⟨v4, rfl, ho4, hx4⟩; obtain ⟨A4, c4, rfl⟩ := own_slice ho4; have hs4 := row_sl ho4 rfl; have hcall := rNames A3 _ c3 d.list A4 _ c4 d.list w4 (hs3.ext0 hx4) hs4 (by omega); rw [show decide (d.list = d.list) = true from decide_eq_true rfl] at hcall) | (go_at_call 34; (refine hcall.mono ?_); rintro e w5 ⟨rfl, hx5⟩))
  have hx25 := (hx3.tr hx4).tr hx5
  have h5 := h2.keep0 hx25
  have hF5 := hF.keep0 hx25
  have hx05 := hx2.tr hx25
  clear hcall hs3 hs4 ho3 ho4 hx3 hx4 hx5 hx25 h2 hF hx2
  have hmem : ∀ y ∈ ys, d.read y.1.1 = (y.1.2, 0) ∧ y.1.1.length ≤ maxLen := fun y hy => by
    have hm : y.1 ∈ d.files := by rw [← hys]; exact List.mem_map_of_mem hy
    refine ⟨read_mem hg hm, ?_⟩
    have h9 := hg.files.name _ hm
    unfold Dk.nameOk at h9
    simp only [Bool.and_eq_true, decide_eq_true_eq] at h9
    have := h9.2.2
    unfold maxLen
    omega
  have hsz : ∀ y ∈ ys, y.1.2.length ≤ 1048576 := fun y hy => hg.files.size _ (by rw [← hys]; exact List.mem_map_of_mem hy)
  obtain ⟨w6, hw6⟩ : ∃ z : World, z = w5 := ⟨_, rfl⟩
  rw [← hw6] at h5 hF5 hx05 ⊢
  clear hw6 hys
  go_upto_region 5 with (first | go_skip | go_guarded)
  go_loopw [6] (fun ki wr => ∃ t : Nat, t ≤ n1 ∧ ki = .int .i64 t ∧ Ext Nothing w6 wr) (fun ki _ => n1 - (intOf ki).toNat)
  case atStart => exact ⟨0, Nat.zero_le _, rfl, Ext.refl _ _⟩
  case round =>
    obtain ⟨t, ht, rfl, hx⟩ := hrel
    by_cases hlt : t < n1
    · obtain ⟨hjn, q, off, hAe, hce⟩ := hF5.sl.get hx hlt
      have hyi := hF5.data _ (List.getElem_mem hjn)
      have hrd := hmem _ (List.getElem_mem hjn)
      have hsl := hsz _ (List.getElem_mem hjn)
      generalize ys[t] = y at hce hyi hrd hsl
      obtain ⟨⟨nm, dt⟩, v⟩ := y
      obtain ⟨A7, n7, c7, hv7, ⟨hs7, _⟩, _⟩ := hyi
      have hv7 : v = .slice A7 n7 c7 := hv7
      subst hv7
      have hs7 : Sl w6 1 A7 n7 (dt.map bCell) := hs7
      have hrd1 : d.read nm = (dt, 0) := hrd.1
      have hnl : nm.length ≤ maxLen := hrd.2
      have hsl : dt.length ≤ 1048576 := hsl
      have q0 : wr.cell? ⟨q, off + t * 2, none⟩ = some (strV nm) := by have h9 := hce 0 _ rfl; simpa using h9
      have q1 : wr.cell? ⟨q, off + t * 2 + 1, none⟩ = some (.slice A7 n7 c7) := hce 1 _ rfl
      subst hAe
      have hk0 : (0 : Int) ≤ (t : Int) := by omega
      have hk1 : (t : Int) < n1 := by omega
      have HT := Lib.hid hlt
      have HRD := Lib.hid hrd1
      clear hce hrd hlt hrd1 hmem hsz
      go_upto_region 8 with (first | go_skip | go_guarded | (go_at_call 23; (with_reducible refine (dkRead nm wr (h5.disk.keep0 hx) hg hnl).mono ?_); rintro e w7 ⟨v7, rfl, hv7, hx7⟩; (rw [HRD.out] at hv7 ⊢); obtain ⟨A8, n8, c8, rfl, ⟨hs8, _⟩, _⟩ := hv7))
      have hs8 : Sl w7 1 A8 n8 (dt.map bCell) := hs8
      have hn8 : n8 < 67108864 := by have := hs8.1; rw [List.length_map] at this; omega
      have q17 := hx7.c0 q1
      have hcall := rSame A8 n8 c8 dt A7 n7 c7 dt w7 hs8 ((hs7.ext0 hx).ext0 hx7) hn8
      rw [show decide (dt = dt) = true from decide_eq_true rfl] at hcall
      clear hs8 hs7 q0 q1
      go_wp2_with (first | go_skip | go_guarded | (go_at_call 24; (refine hcall.mono ?_); rintro e w8 ⟨rfl, hx8⟩))
      go_roundw
      case rel => exact ⟨t + 1, HT.out, by go_num, (hx.tr hx7).tr hx8⟩
      case measure => have := HT.out; simp [intOf]; omega
    · have hnl : ¬ ((t : Int) < n1) := by omega
      go_wp2_with (first | go_skip | go_guarded)
      go_ret
      exact ⟨rfl, hx05.tr hx⟩
end Go.Proofs.YtlfpfhdagkkliaaDoor
