/- The disk's ask. -/
import Derived.Test.YtockcifkphfnlaaGreatDoorAk3
import Derived.Deep.CutRange
namespace Go.Proofs.YtockcifkphfnlaaGreatDoor
set_option linter.unusedVariables false
set_option linter.unusedSimpArgs false
open Go.RowKit Go.Shelf Go.Sort
open Go.Maps Go.WideMaps
variable {M : Nat → Prop}

def askF (names : List Dk.Str) (ch : Bool) (left : Int) : Int := if names.all Dk.nameOk then (if ch && decide (left = 0) then 11 else 0) else 1
set_option maxRecDepth 20000 in
set_option maxHeartbeats 4000000 in
theorem dkAsk {Ok : Nat → Prop} {b bd bn m c' : Nat} {A' : Option Addr} {L : Int} {ys : List DeedC} {d : Dk.DiskD} (ch : Bool) (A : Option Addr) (n c : Nat) (names : List Dk.Str) (w : World) (h : DiskAt M w Ok b bd bn A' m c' L ys d) (hl : Sl w 1 A n (names.map fun s => [strV s])) (hn : n ≤ 64) (hs : ∀ s ∈ names, s.length ≤ maxLen) :
    Calls Tryz.prog 29 #[.pointer (some ⟨b, 0, none⟩), .bool ch, .slice A n c] w fun e w' => e = .returned (.int .i64 (askF names ch d.left)) ∧ Ext Nothing w w' := by
  have hlen := Lib.hid hl.len
  go_enter Tryz.func29, Tryz.ntmps29
  go_wp2
  go_loopw [11] (fun ki wr => ∃ t : Nat, t ≤ n ∧ ki = .int .i64 t ∧ (names.take t).all Dk.nameOk = true ∧ Ext Nothing w wr) (fun ki _ => n - (intOf ki).toNat)
  case atStart => exact ⟨0, Nat.zero_le _, rfl, by simp, Ext.refl _ _⟩
  case round =>
    obtain ⟨t, ht, rfl, hall, hx⟩ := hrel
    by_cases hlt : t < n
    · obtain ⟨hjn, q, off, hAe, hce⟩ := hl.get hx hlt
      have hsz := hs _ (List.getElem_mem hjn)
      have HNX := Lib.hid (show (names.take (t + 1)).all Dk.nameOk = ((names.take t).all Dk.nameOk && Dk.nameOk names[t]) by rw [List.take_add_one, List.getElem?_eq_getElem hjn, List.all_append]; simp)
      have HBAD := Lib.hid (show Dk.nameOk names[t] = false → names.all Dk.nameOk = false from fun e => by rw [List.all_eq_false]; exact ⟨_, List.getElem_mem hjn, by rw [e]; simp⟩)
      generalize names[t] = x at hce hsz HNX HBAD
      subst hAe
      have c0 : wr.cell? ⟨q, off + t, none⟩ = some (strV x) := by have h9 := hce 0 _ rfl; simpa using h9
      have hk0 : (0 : Int) ≤ (t : Int) := by omega
      have hk1 : (t : Int) < n := by omega
      have HALL := Lib.hid hall
      have HT := Lib.hid hlt
      clear hce hall hlt
      go_upto_region 4 with (first | go_skip | go_guarded)
      go_cut [26] from 15 to 26 (fun e wx => e = .bool (!Dk.nameOk x) ∧ Ext Nothing wr wx)
      case first =>
        cases v1 : x.isEmpty with
        | true =>
          obtain rfl : x = [] := List.isEmpty_iff.1 v1
          go_wp2_with (first | go_skip | go_guarded)
          go_meet
          exact ⟨rfl, Ext.refl _ _⟩
        | false =>
          cases v2 : decide ((32 : Int) < (x.length : Int)) with
          | true =>
            go_wp2_with (first | go_skip | go_guarded)
            go_meet
            exact ⟨by unfold Dk.nameOk; rw [show decide (x.length ≤ 32) = false by simp at v2; simp; omega]; simp, Ext.refl _ _⟩
          | false =>
            have v3 := Lib.hid (trim_empty x)
            have HV := Lib.hid v1
            have HW := Lib.hid v2
            go_wp2_with (first | go_skip | go_guarded | (go_at_call 41; (with_reducible refine (dkTrim x hsz wr).mono ?_); rintro e w9 ⟨rfl, hx9⟩))
            go_meet
            exact ⟨by unfold Dk.nameOk; rw [v3.out, HV.out, show decide (x.length ≤ 32) = true by have := HW.out; simp at this; simp; omega]; simp, hx9⟩
      case rest =>
        obtain ⟨rfl, hxq⟩ := hcut
        have hx9 := hx.tr hxq
        cases v4 : Dk.nameOk x with
        | false =>
          have HB := Lib.hid (HBAD.out v4)
          go_wp2
          go_ret
          exact ⟨by unfold askF; rw [HB.out]; rfl, hx9⟩
        | true =>
          have HN := Lib.hid (show (names.take (t + 1)).all Dk.nameOk = true by rw [HNX.out, HALL.out, v4]; rfl)
          go_wp2
          go_roundw
          case rel => exact ⟨t + 1, HT.out, by go_num, HN.out, hx9⟩
          case measure => have := HT.out; simp [intOf]; omega
    · have hnl : ¬ ((t : Int) < n) := by omega
      have HA := Lib.hid (show names.all Dk.nameOk = true by rw [← hall, List.take_of_length_le (by have := hlen.out; omega)])
      have h2 := h.keep0 hx
      have k3 : wr.cell? ⟨b, 3, none⟩ = some (.bool (decide (0 ≤ d.left))) := h2.blk.cell 3
      have k4 : wr.cell? ⟨b, 4, none⟩ = some (.int .i64 L) := h2.blk.cell 4
      have hL := h.left
      clear hall h2
      cases ch with
      | false =>
        go_wp2
        go_ret
        exact ⟨by unfold askF; rw [HA.out]; rfl, hx⟩
      | true =>
        cases v5 : decide (0 ≤ d.left) with
        | false =>
          rw [v5] at k3
          have HL := Lib.hid (show decide (d.left = 0) = false by simp at v5; simp; omega)
          go_wp2
          go_ret
          exact ⟨by unfold askF; rw [HA.out, HL.out]; rfl, hx⟩
        | true =>
          rw [v5] at k3
          obtain rfl := hL (of_decide_eq_true v5)
          cases v6 : (d.left == 0) with
          | false =>
            have HL := Lib.hid (show decide (d.left = 0) = false by simpa using v6)
            go_wp2
            go_ret
            exact ⟨by unfold askF; rw [HA.out, HL.out]; rfl, hx⟩
          | true =>
            have HL := Lib.hid (show decide (d.left = 0) = true by simpa using v6)
            go_wp2
            go_ret
            exact ⟨by unfold askF; rw [HA.out, HL.out]; rfl, hx⟩
end Go.Proofs.YtockcifkphfnlaaGreatDoor
