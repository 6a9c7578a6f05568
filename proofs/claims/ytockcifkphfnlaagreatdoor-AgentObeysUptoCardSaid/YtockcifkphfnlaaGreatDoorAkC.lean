/- The disk's crash, plain: deed by deed. -/
import Derived.Test.YtockcifkphfnlaaGreatDoorAk8
namespace Go.Proofs.YtockcifkphfnlaaGreatDoor
set_option linter.unusedVariables false
set_option linter.unusedSimpArgs false
namespace Dk
theorem doesP_torn (F : Files) (x : DidD) {p : Nat} (hp : 0 < p) (hu : ¬ units x ≤ p) : doesP F x p = does F { x with data := x.data.take p } := by
  have hk : x.kind = 0 := by
    unfold units at hu
    split at hu
    · rename_i e; exact e.1
    · omega
  unfold doesP
  rw [if_pos hk]
theorem torn_step (F : Files) (x : DidD) (r : List DidD) {p : Nat} (hp : 0 < p) : torn F (x :: r) p = torn (doesP F x (min p (units x))) r (p - min p (units x)) := by
  rw [torn, if_neg (by omega)]
  by_cases hu : units x ≤ p
  · rw [if_pos hu, Nat.min_eq_right hu, doesP_all]
  · rw [if_neg hu, Nat.min_eq_left (by omega), Nat.sub_self, torn_zero, doesP_torn F x hp hu]
/-- where a crash stands behind k deeds: the files, and how many units are left -/
structure Mid (d : DiskD) (p0 k : Nat) (F : Files) (p : Nat) : Prop where
  torn : torn d.dur d.done p0 = torn F (d.done.drop k) p
  at_ : 0 < p → F = d.at_ k
  ok : FilesOk F
theorem mid_zero {d : DiskD} (h : Good d) (p0 : Nat) : Mid d p0 0 d.dur p0 := ⟨by simp, fun _ => by simp [DiskD.at_], h.dur⟩
theorem mid_step {d : DiskD} (h : Good d) {p0 k p : Nat} {F : Files} {x : DidD} (hm : Mid d p0 k F p) (hx : d.done[k]? = some x) (hp : 0 < p) : Mid d p0 (k + 1) (doesP F x (min p (units x))) (p - min p (units x)) := by
  obtain ⟨hk, hx2⟩ := List.getElem?_eq_some_iff.1 hx
  have hdr : d.done.drop k = x :: d.done.drop (k + 1) := by rw [List.drop_eq_getElem_cons hk, hx2]
  have hF := hm.at_ hp
  have hat : d.at_ (k + 1) = does F x := by
    rw [hF]
    unfold DiskD.at_
    rw [List.take_add_one, hx, List.foldl_append]
    rfl
  refine ⟨by rw [hm.torn, hdr, torn_step F x _ hp], fun hp2 => ?_, ?_⟩
  · have hu : units x ≤ p := by omega
    rw [Nat.min_eq_right hu, doesP_all, hat]
  · have := torn_ok (F := F) (l := [x]) (p := p) (fun j => ?_) (fun y hy => by rw [List.mem_singleton.1 hy]; exact h.did x (List.mem_of_getElem? hx))
    · rw [torn_step F x [] hp] at this
      simpa [Dk.torn] using this
    · cases j with
      | zero => exact hm.ok
      | succ j =>
        rw [List.take_of_length_le (by simp)]
        show FilesOk (does F x)
        rw [← hat]
        exact h.at_ _
theorem mid_end {d : DiskD} {p0 k p : Nat} {F : Files} (hm : Mid d p0 k F p) (h : p = 0 ∨ d.done.length ≤ k) : torn d.dur d.done p0 = F := by
  rw [hm.torn]
  rcases h with rfl | h
  · exact torn_zero _ _
  · rw [List.drop_eq_nil_of_le h]; simp [Dk.torn]
theorem pick_le (d : DiskD) (k : Int) : pick d k ≤ allUnits d.done := by
  unfold pick
  have h1 := Int.emod_nonneg k (b := (allUnits d.done : Int) + 1) (by omega)
  have h2 := Int.emod_lt_of_pos k (b := (allUnits d.done : Int) + 1) (by omega)
  omega
theorem pick_go (k : Int) (m : Nat) (hm : 0 < m) : ((k.tmod (m : Int)) + (m : Int)).tmod (m : Int) = k % (m : Int) := by
  have h1 : 0 ≤ k.tmod (m : Int) + m := by
    have := Int.lt_tmod_of_pos k (b := (m : Int)) (by omega)
    omega
  rw [Int.tmod_eq_emod_of_nonneg h1, Int.add_emod_right]
  have := Int.mul_tdiv_add_tmod k m
  have h2 : k.tmod (m : Int) = k - m * k.tdiv m := by omega
  rw [h2]
  have h3 : k - (m : Int) * k.tdiv m = k + m * (-(k.tdiv m)) := by rw [Int.mul_neg]; omega
  rw [h3, Int.add_mul_emod_self_left]
theorem units_take {l : List DidD} {k : Nat} {x : DidD} (h : l[k]? = some x) : allUnits (l.take (k + 1)) = allUnits (l.take k) + units x := by
  unfold allUnits
  rw [List.take_add_one, h, List.map_append, List.sum_append]
  simp
theorem units_mono (l : List DidD) (k : Nat) : allUnits (l.take k) ≤ allUnits l := by
  unfold allUnits
  have : l.map units = (l.take k).map units ++ (l.drop k).map units := by rw [← List.map_append, List.take_append_drop]
  rw [this, List.sum_append]
  omega
end Dk
end Go.Proofs.YtockcifkphfnlaaGreatDoor
