/- The disk, plain: what the laws ask: other files stay, a second crash takes nothing, a crash between single bytes; no program is named. -/
import Derived.Test.YtockcifkphfnlaaGreatDoorDkI
namespace Go.Proofs.YtockcifkphfnlaaGreatDoor
set_option linter.unusedVariables false
set_option linter.unusedSimpArgs false
namespace Dk

theorem find_without {F : Files} {s t : Str} (h : s ≠ t) : find (without F t) s = find F s := by
  induction F with
  | nil => rfl
  | cons f r ih =>
    unfold without find at *
    rw [List.filter_cons]
    by_cases hf : f.1 = t
    · rw [if_neg (by simp [hf]), List.find?_cons_of_neg (by simp only [beq_iff_eq]; exact fun e => h (e.symm.trans hf))]
      exact ih
    · rw [if_pos (by simp [hf])]
      by_cases hs : f.1 = s
      · rw [List.find?_cons_of_pos (by simp [hs]), List.find?_cons_of_pos (by simp [hs])]
      · rw [List.find?_cons_of_neg (by simp [hs]), List.find?_cons_of_neg (by simp [hs])]
        exact ih
theorem find_without_self (F : Files) (s : Str) : find (without F s) s = none := by
  rw [find_none, without_keys]
  intro h
  have := (List.mem_filter.1 h).2
  simp at this
theorem find_mem_iff {F G : Files} (hF : Asc F) (hG : Asc G) {s : Str} (h : ∀ v, (s, v) ∈ F ↔ (s, v) ∈ G) : find F s = find G s := by
  cases hf : find F s with
  | none =>
    cases hg : find G s with
    | none => rfl
    | some v => rw [asc_find hG, ← h, ← asc_find hF, hf] at hg; cases hg
  | some v => rw [asc_find hF, h, ← asc_find hG] at hf; exact hf.symm
theorem find_with {F : Files} (hF : Asc F) {f : Str × List UInt8} {s : Str} (h : s ≠ f.1) : find (with_ F f) s = find F s :=
  find_mem_iff (with_asc hF f) hF (fun v => by
    rw [with_mem]
    exact ⟨fun e => by rcases e with e | e; exact absurd (congrArg Prod.fst e) h; exact e.1, fun e => .inr ⟨e, h⟩⟩)
theorem find_with_self {F : Files} (hF : Asc F) (f : Str × List UInt8) : find (with_ F f) f.1 = some f.2 := (asc_find (with_asc hF f)).2 (with_mem.2 (.inl rfl))
theorem does_else {F : Files} (hF : Asc F) {x : DidD} {s : Str} (h1 : s ≠ x.name) (h2 : x.kind = 3 → s ≠ x.to_) : find (does F x) s = find F s := by
  unfold does
  split
  · exact find_with hF h1
  · split
    · exact find_with hF h1
    · split
      · rename_i h3
        rw [find_with (without_asc hF _) (h2 h3), find_without h1]
      · exact find_without h1
theorem did_files (d : DiskD) (x : DidD) : (d.did x).files = does d.files x := by
  unfold DiskD.did DiskD.counted DiskD.files
  split <;> simp [List.foldl_append]
theorem did_dur (d : DiskD) (x : DidD) : (d.did x).dur = d.dur := by
  unfold DiskD.did DiskD.counted
  split <;> rfl
theorem did_done (d : DiskD) (x : DidD) : (d.did x).done = d.done ++ [x] := by
  unfold DiskD.did DiskD.counted
  split <;> rfl
theorem did_left (d : DiskD) (x : DidD) : (d.did x).left = if 0 < d.left then d.left - 1 else d.left := by
  unfold DiskD.did DiskD.counted
  split <;> rfl
theorem pick_zero (d : DiskD) : pick d 0 = 0 := by unfold pick; simp
theorem torn_zero : ∀ (F : Files) (l : List DidD), torn F l 0 = F
  | F, [] => rfl
  | F, x :: r => by simp [torn]
theorem crash_zero (d : DiskD) : (d.crash 0).files = d.dur := by
  unfold DiskD.crash DiskD.files
  simp only [List.foldl_nil]
  rw [pick_zero, torn_zero]
theorem crash_again (d : DiskD) (h : d.done = []) (k : Int) : (d.crash k).files = d.files := by
  unfold DiskD.crash DiskD.files
  rw [h]
  rfl
theorem crash_done (d : DiskD) (k : Int) : (d.crash k).done = [] := rfl
theorem torn_ones : ∀ {F : Files} {l : List DidD} {p : Nat}, (∀ x ∈ l, units x = 1) → torn F l p = (l.take p).foldl does F
  | F, [], p, _ => by simp [torn]
  | F, x :: r, p, h => by
    unfold torn
    cases p with
    | zero => simp
    | succ p =>
      rw [if_neg (by omega), if_pos (by have := h x (List.mem_cons_self ..); omega), h x (List.mem_cons_self ..), Nat.add_sub_cancel, torn_ones (fun y hy => h y (List.mem_cons_of_mem _ hy))]
      rfl
theorem crash_ones {d : DiskD} (h : ∀ x ∈ d.done, x.data.length ≤ 1) (k : Int) : ∃ j, (d.crash k).files = d.at_ j := by
  refine ⟨pick d k, ?_⟩
  unfold DiskD.crash DiskD.files
  simp only [List.foldl_nil]
  rw [torn_ones (fun x hx => ?_)]
  · rfl
  · unfold units
    have := h x hx
    split <;> omega
end Dk
end Go.Proofs.YtockcifkphfnlaaGreatDoor
