/- The disk, plain: what holds of its files behind any operations; no program is named. -/
import Derived.Test.YtockcifkphfnlaaGreatDoorDkF
namespace Go.Proofs.YtockcifkphfnlaaGreatDoor
set_option linter.unusedVariables false
set_option linter.unusedSimpArgs false
namespace Dk

structure FilesOk (F : Files) : Prop where
  asc : Asc F
  few : F.length ≤ 64
  name : ∀ f ∈ F, nameOk f.1 = true
  size : ∀ f ∈ F, f.2.length ≤ 1048576
/-- the files behind the first j deeds -/
def DiskD.at_ (d : DiskD) (j : Nat) : Files := (d.done.take j).foldl does d.dur
structure DidOk (x : DidD) : Prop where
  name : nameOk x.name = true
  to_ : x.kind = 3 → nameOk x.to_ = true
  kind : x.kind ≤ 3
  data : x.data.length ≤ 1048576
  none : x.kind ≠ 0 → x.kind ≠ 1 → x.data = []
  tl : x.kind ≠ 3 → x.to_.length ≤ 9223372036854775807
structure Good (d : DiskD) : Prop where
  at_ : ∀ j, FilesOk (d.at_ j)
  did : ∀ x ∈ d.done, DidOk x
  left : -1 ≤ d.left
theorem at_all (d : DiskD) : d.at_ d.done.length = d.files := by unfold DiskD.at_ DiskD.files; rw [List.take_length]
theorem Good.files {d : DiskD} (h : Good d) : FilesOk d.files := by rw [← at_all]; exact h.at_ _
theorem Good.dur {d : DiskD} (h : Good d) : FilesOk d.dur := by have := h.at_ 0; simpa [DiskD.at_] using this
theorem filesOk_nil : FilesOk [] := ⟨by simp [Asc, keys], by simp, by simp, by simp⟩
theorem good_new : Good new := ⟨fun j => by simpa [DiskD.at_, new] using filesOk_nil, by simp [new], by simp [new]⟩
theorem without_ok {F : Files} (h : FilesOk F) (s : Str) : FilesOk (without F s) :=
  ⟨without_asc h.asc s, Nat.le_trans (List.length_filter_le _ _) h.few, fun f hf => h.name f (mem_without.1 hf).1, fun f hf => h.size f (mem_without.1 hf).1⟩
theorem without_len {F : Files} {s : Str} (h : find F s ≠ none) : (without F s).length < F.length := by
  unfold without
  cases hf : F.find? (fun f => f.1 == s) with
  | none => exact absurd (by unfold find; rw [hf]; rfl) h
  | some f =>
    have h1 := List.find?_some hf
    have h2 := List.mem_of_find?_eq_some hf
    rw [List.length_filter_lt_length_iff_exists]
    exact ⟨f, h2, by simpa using h1⟩
theorem with_len (F : Files) (f : Str × List UInt8) : (with_ F f).length = (without F f.1).length + 1 := by rw [(with_perm F f).length_eq, List.length_cons]
theorem with_ok {F : Files} (h : FilesOk F) {f : Str × List UInt8} (hn : nameOk f.1 = true) (hs : f.2.length ≤ 1048576) (hl : (without F f.1).length < 64) : FilesOk (with_ F f) := by
  refine ⟨with_asc h.asc f, by rw [with_len]; omega, fun g hg => ?_, fun g hg => ?_⟩
  · rcases with_mem.1 hg with rfl | ⟨hg, _⟩
    · exact hn
    · exact h.name g hg
  · rcases with_mem.1 hg with rfl | ⟨hg, _⟩
    · exact hs
    · exact h.size g hg
theorem without_none {F : Files} {s : Str} (h : find F s = none) : without F s = F := by
  unfold without
  rw [List.filter_eq_self]
  intro f hf
  have := find_none.1 h
  have : f.1 ≠ s := fun e => this (List.mem_map.2 ⟨f, hf, e⟩)
  simpa using this
theorem without_le {F : Files} (h : FilesOk F) {s : Str} (hr : ¬ (find F s = none ∧ 64 ≤ F.length)) : (without F s).length < 64 := by
  by_cases hf : find F s = none
  · rw [without_none hf]
    have := h.few
    have : ¬ 64 ≤ F.length := fun e => hr ⟨hf, e⟩
    omega
  · have := without_len hf
    have := h.few
    omega
theorem find_len {F : Files} (h : FilesOk F) {s : Str} : ((find F s).getD []).length ≤ 1048576 := by
  cases hf : find F s with
  | none => simp
  | some v => exact h.size _ ((asc_find h.asc).1 hf)
theorem good_did {d : DiskD} (h : Good d) {x : DidD} (hx : DidOk x) (hf : FilesOk (does d.files x)) : Good (d.did x) := by
  have key : Good { d with done := d.done ++ [x] } := by
    refine ⟨fun j => ?_, fun y hy => ?_, h.left⟩
    · unfold DiskD.at_
      rcases Nat.lt_or_ge d.done.length j with hj | hj
      · rw [List.take_of_length_le (by simp; omega), List.foldl_append]
        exact hf
      · rw [show (d.done ++ [x]).take j = d.done.take j from List.take_append_of_le_length hj]
        exact h.at_ j
    · rcases List.mem_append.1 hy with hy | hy
      · exact h.did y hy
      · rw [List.mem_singleton.1 hy]; exact hx
  unfold DiskD.did DiskD.counted
  split
  · rename_i hl
    exact ⟨key.at_, key.did, by have : 0 < d.left := hl; show -1 ≤ d.left - 1; omega⟩
  · exact key
theorem good_write {d : DiskD} (h : Good d) {k : Nat} (hk : k ≤ 1) (s : Str) (data : List UInt8) : Good (d.write k s data).1 := by
  unfold DiskD.write
  split
  · exact h
  · split
    · exact h
    · split
      · exact h
      · rename_i hn _ hf
        have hn : nameOk s = true := by simpa using hn
        unfold full at hf
        simp only [Bool.or_eq_true, Bool.and_eq_true, decide_eq_true_eq, not_or, not_and, Option.isNone_iff_eq_none] at hf
        have hsz : data.length ≤ 1048576 := by have := hf.2; unfold size at this; omega
        have hl := without_le h.files (s := s) (fun e => hf.1 e.1 e.2)
        refine good_did h ⟨hn, fun e => by simp at e; omega, by simp; omega, hsz, fun h0 h1 => by simp at h0 h1; omega, fun _ => by simp⟩ ?_
        unfold does
        simp only
        rcases Nat.eq_zero_or_pos k with rfl | hp
        · rw [if_pos rfl]
          exact with_ok h.files hn (by simp only [List.length_append]; have := hf.2; unfold size at this; rw [if_pos rfl] at this; omega) hl
        · have : k = 1 := by omega
          subst this
          rw [if_neg (by omega), if_pos rfl]
          exact with_ok h.files hn hsz hl
theorem good_move {d : DiskD} (h : Good d) {x : DidD} {b : Str} (hk : x.kind = 2 ∧ x.to_ = [] ∨ x.kind = 3 ∧ x.to_ = b) (hd : x.data = []) : Good (d.move x b).1 := by
  unfold DiskD.move
  split
  · exact h
  · split
    · exact h
    · split
      · exact h
      · rename_i hn _ hf
        simp only [Bool.or_eq_true, Bool.not_eq_true, not_or, Bool.not_eq_false, Bool.not_eq_eq_eq_not, Bool.not_true] at hn
        have hf : find d.files x.name ≠ none := by simpa using hf
        refine good_did h ⟨hn.1, fun e => by rcases hk with hk | hk; omega; rw [hk.2]; exact hn.2, by omega, by rw [hd]; simp, fun _ _ => hd, fun h3 => by rcases hk with hk | hk; rw [hk.2]; simp; exact absurd hk.1 h3⟩ ?_
        unfold does
        rcases hk with hk | ⟨hk, ht⟩
        · rw [if_neg (by omega), if_neg (by omega), if_neg (by omega)]
          exact without_ok h.files _
        · rw [if_neg (by omega), if_neg (by omega), if_pos hk]
          refine with_ok (without_ok h.files _) (by show nameOk x.to_ = true; rw [ht]; exact hn.2) (find_len h.files) ?_
          have h1 := without_len hf
          have h2 : (without (without d.files x.name) x.to_).length ≤ (without d.files x.name).length := List.length_filter_le _ _
          have := h.files.few
          show (without (without d.files x.name) x.to_).length < 64
          omega
theorem good_sync {d : DiskD} (h : Good d) : Good d.sync.1 := by
  unfold DiskD.sync
  split
  · exact h
  · unfold DiskD.counted
    have hf := h.files
    have hl := h.left
    split
    · rename_i hp
      have hp : 0 < d.left := hp
      exact ⟨fun j => by simpa [DiskD.at_] using hf, by simp, by show -1 ≤ d.left - 1; omega⟩
    · exact ⟨fun j => by simpa [DiskD.at_] using hf, by simp, hl⟩
theorem good_cut {d : DiskD} (h : Good d) (n : Int) : Good (d.cutAt n).1 := by
  unfold DiskD.cutAt
  split
  · exact h
  · exact ⟨h.at_, h.did, by show -1 ≤ n; omega⟩
theorem units_pos (x : DidD) : 1 ≤ units x := by unfold units; split <;> omega
theorem units_le {x : DidD} (h : DidOk x) : units x ≤ 1048576 := by unfold units; have := h.data; split <;> omega
theorem torn_ok : ∀ {F : Files} {l : List DidD} {p : Nat}, (∀ j, FilesOk ((l.take j).foldl does F)) → (∀ x ∈ l, DidOk x) → FilesOk (torn F l p)
  | F, [], p, h, _ => by simpa [torn] using h 0
  | F, x :: r, p, h, hd => by
    unfold torn
    split
    · simpa using h 0
    · split
      · exact torn_ok (fun j => by have := h (j + 1); simpa using this) (fun y hy => hd y (List.mem_cons_of_mem _ hy))
      · rename_i hp hu
        have h1 : FilesOk (does F x) := by have := h 1; simpa using this
        have h0 : FilesOk F := by simpa using h 0
        have hx := hd x (List.mem_cons_self ..)
        have hk : x.kind = 0 := by
          unfold units at hu
          split at hu
          · rename_i e; exact e.1
          · omega
        unfold does at h1 ⊢
        rw [if_pos hk] at h1
        simp only
        rw [if_pos hk]
        have hm : (x.name, (find F x.name).getD [] ++ x.data) ∈ with_ F (x.name, (find F x.name).getD [] ++ x.data) := with_mem.2 (.inl rfl)
        have hs := h1.size _ hm
        have hl := h1.few
        rw [with_len] at hl
        refine with_ok h0 hx.name ?_ (by simp only at hl ⊢; omega)
        simp only [List.length_append, List.length_take] at hs ⊢
        omega
theorem good_crash {d : DiskD} (h : Good d) (k : Int) : Good (d.crash k) := by
  have ht : FilesOk (torn d.dur d.done (pick d k)) := torn_ok (fun j => h.at_ j) h.did
  exact ⟨fun j => by simpa [DiskD.at_, DiskD.crash] using ht, by simp [DiskD.crash], by simp [DiskD.crash]⟩
theorem allUnits_le : ∀ {l : List DidD}, (∀ x ∈ l, DidOk x) → allUnits l ≤ 1048576 * l.length
  | [], _ => by simp [allUnits]
  | x :: r, h => by
    have h1 := units_le (h x (List.mem_cons_self ..))
    have h2 := allUnits_le (l := r) (fun y hy => h y (List.mem_cons_of_mem _ hy))
    unfold allUnits at h2 ⊢
    rw [List.map_cons, List.sum_cons, List.length_cons]
    omega
/-- the deeds grow by one at most -/
theorem did_len (d : DiskD) (x : DidD) : (d.did x).done.length = d.done.length + 1 := by
  unfold DiskD.did DiskD.counted
  split <;> simp
theorem write_len (d : DiskD) (k : Nat) (s : Str) (data : List UInt8) : (d.write k s data).1.done.length ≤ d.done.length + 1 := by
  unfold DiskD.write
  repeat' split
  all_goals first | (rw [did_len]; omega) | (simp only; omega)
theorem move_len (d : DiskD) (x : DidD) (b : Str) : (d.move x b).1.done.length ≤ d.done.length + 1 := by
  unfold DiskD.move
  repeat' split
  all_goals first | (rw [did_len]; omega) | (simp only; omega)
theorem sync_len (d : DiskD) : d.sync.1.done.length ≤ d.done.length := by
  unfold DiskD.sync DiskD.counted
  repeat' split
  all_goals simp
end Dk
end Go.Proofs.YtockcifkphfnlaaGreatDoor
