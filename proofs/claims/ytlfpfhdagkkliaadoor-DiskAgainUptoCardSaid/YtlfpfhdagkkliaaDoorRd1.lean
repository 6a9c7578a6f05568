/- The document's disk: names, find, without, with. -/
import Derived.Test.YtlfpfhdagkkliaaDoorRdM
import Derived.Test.YtlfpfhdagkkliaaDoorCalm
namespace Go.Proofs.YtlfpfhdagkkliaaDoor
set_option linter.unusedVariables false
set_option linter.unusedSimpArgs false
open Go.RowKit

theorem str_at {s : List UInt8} {t : Nat} {x : UInt8} (hx : s[t]? = some x) (W : World) (T : TypeId) (hT : Tryd.prog.underlying T = some .string) : (Instr.index T (strV s) (.int .i64 (t : Int))).run Tryd.prog W = .ok (.int .u8 (x.toNat : Int)) W := by
  obtain ⟨ht, rfl⟩ := List.getElem?_eq_some_iff.1 hx
  rw [run_index_string W T ⟨s.toArray⟩ .i64 (t : Int) hT, dif_pos ⟨by omega, by show (t : Int) < (s.toArray.size : Int); simp; omega⟩]
  rfl
theorem letter_iff {x : UInt8} : Dk.letter x = true ↔ (97 ≤ x.toNat ∧ x.toNat ≤ 122) ∨ (48 ≤ x.toNat ∧ x.toNat ≤ 57) ∨ x.toNat = 46 ∨ x.toNat = 45 := by
  unfold Dk.letter
  simp only [Bool.or_eq_true, Bool.and_eq_true, decide_eq_true_eq, beq_iff_eq, UInt8.le_iff_toNat_le]
  have e46 : x = 46 ↔ x.toNat = 46 := ⟨fun e => by rw [e]; rfl, fun e => UInt8.toNat_inj.1 e⟩
  have e45 : x = 45 ↔ x.toNat = 45 := ⟨fun e => by rw [e]; rfl, fun e => UInt8.toNat_inj.1 e⟩
  rw [e46, e45]
  simp only [show UInt8.toNat 97 = 97 from rfl, show UInt8.toNat 122 = 122 from rfl, show UInt8.toNat 48 = 48 from rfl, show UInt8.toNat 57 = 57 from rfl]
  omega
set_option maxRecDepth 20000 in
set_option maxHeartbeats 4000000 in
theorem rName (s : List UInt8) (w : World) (hs : s.length ≤ maxLen) : Calls Tryd.prog 50 #[strV s] w fun e w' => e = .returned (.bool (Dk.nameOk s)) ∧ Ext Nothing w w' := by
  have hsz : s.length ≤ 9223372036854775807 := by unfold maxLen at hs; omega
  go_enter Tryd.func50, Tryd.ntmps50
  go_upto_region 2 with (first | go_skip | go_guarded)
  go_loopw [3] (fun ki wr => ∃ t : Nat, t ≤ s.length ∧ ki = .int .i64 t ∧ (s.take t).all Dk.letter = true ∧ Ext Nothing w wr) (fun ki _ => s.length - (intOf ki).toNat)
  case atStart => exact ⟨0, Nat.zero_le _, rfl, by simp, Ext.refl _ _⟩
  case round =>
    obtain ⟨t, ht, rfl, hall, hx⟩ := hrel
    by_cases hlt : t < s.length
    · obtain ⟨x, hxt⟩ : ∃ x, s[t]? = some x := ⟨_, List.getElem?_eq_getElem hlt⟩
      have hix := fun W => str_at hxt W 9 Tryd.underlying9
      have HNX := Lib.hid (show (s.take (t + 1)).all Dk.letter = ((s.take t).all Dk.letter && Dk.letter x) by rw [List.take_add_one, hxt, List.all_append]; simp)
      have HBAD := Lib.hid (show Dk.letter x = false → s.all Dk.letter = false from fun e => by rw [List.all_eq_false]; exact ⟨x, List.mem_of_getElem? hxt, by rw [e]; simp⟩)
      have HALL := Lib.hid hall
      have HT := Lib.hid hlt
      have hk0 : (0 : Int) ≤ (t : Int) := by omega
      have hk1 : (t : Int) < (s.length : Int) := by omega
      clear hall hlt hxt
      have hcl : (97 ≤ x.toNat ∧ x.toNat ≤ 122) ∨ (97 ≤ x.toNat ∧ 122 < x.toNat) ∨ (x.toNat < 97 ∧ 48 ≤ x.toNat ∧ x.toNat ≤ 57) ∨ (x.toNat < 97 ∧ 57 < x.toNat) ∨ (x.toNat = 46) ∨ (x.toNat = 45) ∨ (x.toNat < 48 ∧ x.toNat ≠ 46 ∧ x.toNat ≠ 45) := by omega
      rcases hcl with hcl | hcl | hcl | hcl | hcl | hcl | hcl
      · have HL := Lib.hid (show Dk.letter x = true from letter_iff.2 (by omega))
        have h97 : (97 : Int) ≤ (x.toNat : Int) := by omega
        have h122 : (x.toNat : Int) ≤ 122 := by omega
        clear hcl
        go_wp2_with (first | go_skip | go_guarded)
        go_roundw
        case rel => exact ⟨t + 1, HT.out, by go_num, by rw [HNX.out, HALL.out, HL.out]; rfl, hx⟩
        case measure => have := HT.out; simp [intOf]; omega
      · have HL := Lib.hid (show Dk.letter x = false by cases hb : Dk.letter x with | false => rfl | true => exact absurd (letter_iff.1 hb) (by omega))
        have h97 : (97 : Int) ≤ (x.toNat : Int) := by omega
        have h122 : ¬ ((x.toNat : Int) ≤ 122) := by omega
        have h48 : (48 : Int) ≤ (x.toNat : Int) := by omega
        have h57 : ¬ ((x.toNat : Int) ≤ 57) := by omega
        have h46 : ((x.toNat : Int) != 46) = true := by simp; omega
        have h45 : ((x.toNat : Int) != 45) = true := by simp; omega
        clear hcl
        go_wp2_with (first | go_skip | go_guarded)
        go_ret
        exact ⟨by unfold Dk.nameOk; rw [HBAD.out HL.out]; rfl, hx⟩
      · have HL := Lib.hid (show Dk.letter x = true from letter_iff.2 (by omega))
        have h97 : ¬ ((97 : Int) ≤ (x.toNat : Int)) := by omega
        have h48 : (48 : Int) ≤ (x.toNat : Int) := by omega
        have h57 : (x.toNat : Int) ≤ 57 := by omega
        clear hcl
        go_wp2_with (first | go_skip | go_guarded)
        go_roundw
        case rel => exact ⟨t + 1, HT.out, by go_num, by rw [HNX.out, HALL.out, HL.out]; rfl, hx⟩
        case measure => have := HT.out; simp [intOf]; omega
      · have HL := Lib.hid (show Dk.letter x = false by cases hb : Dk.letter x with | false => rfl | true => exact absurd (letter_iff.1 hb) (by omega))
        have h97 : ¬ ((97 : Int) ≤ (x.toNat : Int)) := by omega
        have h48 : (48 : Int) ≤ (x.toNat : Int) := by omega
        have h57 : ¬ ((x.toNat : Int) ≤ 57) := by omega
        have h46 : ((x.toNat : Int) != 46) = true := by simp; omega
        have h45 : ((x.toNat : Int) != 45) = true := by simp; omega
        clear hcl
        go_wp2_with (first | go_skip | go_guarded)
        go_ret
        exact ⟨by unfold Dk.nameOk; rw [HBAD.out HL.out]; rfl, hx⟩
      · have HL := Lib.hid (show Dk.letter x = true from letter_iff.2 (by omega))
        have h97 : ¬ ((97 : Int) ≤ (x.toNat : Int)) := by omega
        have h48 : ¬ ((48 : Int) ≤ (x.toNat : Int)) := by omega
        have h46 : ((x.toNat : Int) != 46) = false := by simp; omega
        clear hcl
        go_wp2_with (first | go_skip | go_guarded)
        go_roundw
        case rel => exact ⟨t + 1, HT.out, by go_num, by rw [HNX.out, HALL.out, HL.out]; rfl, hx⟩
        case measure => have := HT.out; simp [intOf]; omega
      · have HL := Lib.hid (show Dk.letter x = true from letter_iff.2 (by omega))
        have h97 : ¬ ((97 : Int) ≤ (x.toNat : Int)) := by omega
        have h48 : ¬ ((48 : Int) ≤ (x.toNat : Int)) := by omega
        have h46 : ((x.toNat : Int) != 46) = true := by simp; omega
        have h45 : ((x.toNat : Int) != 45) = false := by simp; omega
        clear hcl
        go_wp2_with (first | go_skip | go_guarded)
        go_roundw
        case rel => exact ⟨t + 1, HT.out, by go_num, by rw [HNX.out, HALL.out, HL.out]; rfl, hx⟩
        case measure => have := HT.out; simp [intOf]; omega
      · have HL := Lib.hid (show Dk.letter x = false by cases hb : Dk.letter x with | false => rfl | true => exact absurd (letter_iff.1 hb) (by omega))
        have h97 : ¬ ((97 : Int) ≤ (x.toNat : Int)) := by omega
        have h48 : ¬ ((48 : Int) ≤ (x.toNat : Int)) := by omega
        have h46 : ((x.toNat : Int) != 46) = true := by simp; omega
        have h45 : ((x.toNat : Int) != 45) = true := by simp; omega
        clear hcl
        go_wp2_with (first | go_skip | go_guarded)
        go_ret
        exact ⟨by unfold Dk.nameOk; rw [HBAD.out HL.out]; rfl, hx⟩
    · have hnl : ¬ ((t : Int) < (s.length : Int)) := by omega
      have HA := Lib.hid (show s.all Dk.letter = true by rw [← hall, List.take_of_length_le (by omega)])
      clear hall
      cases v1 : s.isEmpty with
      | true =>
        obtain rfl : s = [] := List.isEmpty_iff.1 v1
        go_wp2_with (first | go_skip | go_guarded)
        go_ret
        exact ⟨rfl, hx⟩
      | false =>
        cases v2 : decide ((s.length : Int) ≤ 32) with
        | true =>
          have HV := Lib.hid v1
          have HW := Lib.hid v2
          go_wp2_with (first | go_skip | go_guarded)
          go_ret
          exact ⟨by unfold Dk.nameOk; rw [HA.out, HV.out, show decide (s.length ≤ 32) = true by have := HW.out; simp at this; simp; omega]; rfl, hx⟩
        | false =>
          have HV := Lib.hid v1
          have HW := Lib.hid v2
          go_wp2_with (first | go_skip | go_guarded)
          go_ret
          exact ⟨by unfold Dk.nameOk; rw [HA.out, HV.out, show decide (s.length ≤ 32) = false by have := HW.out; simp at this; simp; omega]; rfl, hx⟩
-- name ends
end Go.Proofs.YtlfpfhdagkkliaaDoor
