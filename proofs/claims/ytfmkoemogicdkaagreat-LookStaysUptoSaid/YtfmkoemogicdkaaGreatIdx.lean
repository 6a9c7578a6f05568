/- slices.Index, slices.Contains of numbers; the indexes of a group; whether a slot is done. -/
import Derived.Test.YtfmkoemogicdkaaGreatDiffF
import Derived.BigQuiet
namespace Go.Proofs.YtfmkoemogicdkaaGreat
set_option linter.unusedVariables false
open Go.RowKit

def intC (i : Int) : List Value := [.int .i64 i]
theorem intC_len (i : Int) : (intC i).length = 1 := rfl
theorem SLint : SliceT Tryz.prog 81 3 1 := .of (by kernel_rfl)
theorem BYint : (Tryz.prog.info? 3).map (·.bytes) = some 8 := by kernel_rfl

theorem index_int (A : Option Addr) (n cap : Nat) (l : List Int) (x : Int) (w : World) (hl : Sl w 1 A n (l.map intC)) (hn : n ≤ 67108864) :
    Calls Tryz.prog 83 #[.slice A n cap, .int .i64 x] w fun e w' => e = .returned (.int .i64 (idxI (fun y => x == y) l)) ∧ Ext Nothing w w' := by
  have hlen := Lib.hid hl.len
  go_enter Tryz.func83, Tryz.ntmps83
  go_wp2
  go_loopw [8] (fun i wr => ∃ j : Nat, j ≤ n ∧ i = .int .i64 j ∧ (∀ i < j, ∀ y, l[i]? = some y → (x == y) = false) ∧ Ext Nothing w wr) (fun i _ => n - (intOf i).toNat)
  case atStart => exact ⟨0, Nat.zero_le _, rfl, fun j hj => absurd hj (by omega), Ext.refl _ _⟩
  case round =>
    obtain ⟨j, hj, rfl, hno, hx⟩ := hrel
    by_cases hlt : j < n
    · obtain ⟨hjn, b, off, rfl, hce⟩ := hl.get hx hlt
      have hy : l[j]? = some l[j] := List.getElem?_eq_getElem hjn
      generalize l[j] = y at hce hy
      have hc1 : wr.cell? ⟨b, off + j, none⟩ = some (.int .i64 y) := by simpa using hce 0 _ rfl
      have hc2 : wr.cell? ⟨b, off + j * 1, none⟩ = some (.int .i64 y) := by simpa using hce 0 _ rfl
      cases hp : (x == y) with
      | true =>
        have hr := Lib.hid (idx_hit (p := fun y : Int => x == y) hno hy hp)
        have hp' : x = y := by simpa using hp
        subst hp'
        clear hno hy hp
        go_wp2
        go_ret
        exact ⟨by rw [hr.out]; rfl, hx⟩
      | false =>
        have hno' : ∀ i < j + 1, ∀ z, l[i]? = some z → (x == z) = false := fun i hi z hz => by
          by_cases h : i = j
          · subst h; rw [hy] at hz; cases hz; exact hp
          · exact hno i (by omega) z hz
        have HN := Lib.hid hno'
        clear hno hno' hy
        go_wp2
        go_roundw
        case rel => exact ⟨j + 1, by omega, by go_num, HN.out, hx⟩
        case measure => simp [intOf]; omega
    · have hr := Lib.hid (idx_none (p := fun y : Int => x == y) (l := l) (fun i hi y hy => hno i (by have := hlen.out; omega) y hy))
      clear hno
      go_wp2
      go_ret
      exact ⟨by rw [hr.out]; rfl, hx⟩
theorem idx_contains (x : Int) (l : List Int) : decide (idxI (fun y => x == y) l ≥ 0) = l.contains x := by
  rcases idx_cases (fun y => x == y) l with ⟨h, _, hno⟩ | ⟨i, y, h, hy, hp, _⟩
  · rw [h]
    simp only [List.contains_eq_mem]
    have : ¬ x ∈ l := fun hm => by simpa using hno x hm
    simp [this]
  · rw [h]
    have : x ∈ l := by
      have e : x = y := by simpa using hp
      rw [e]; exact List.mem_of_getElem? hy
    simp [this]
theorem contains_int (A : Option Addr) (n cap : Nat) (l : List Int) (x : Int) (w : World) (hl : Sl w 1 A n (l.map intC)) (hn : n ≤ 67108864) :
    Calls Tryz.prog 71 #[.slice A n cap, .int .i64 x] w fun e w' => e = .returned (.bool (l.contains x)) ∧ Ext Nothing w w' := by
  have H := Lib.hid (idx_contains x l)
  go_enter Tryz.func71, Tryz.ntmps71
  go_wp2_with (go_at_call 83; refine (index_int A n cap l x _ hl hn).mono ?_; rintro e w' ⟨rfl, hx⟩)
  go_ret
  exact ⟨by rw [← H.out]; rfl, hx⟩
end Go.Proofs.YtfmkoemogicdkaaGreat
