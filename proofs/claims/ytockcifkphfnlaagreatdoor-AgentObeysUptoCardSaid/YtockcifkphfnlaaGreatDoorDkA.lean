/- Lists of pairs in the order of their making, and files by name: look-up, put and delete agree; no program is named. -/
import Derived.Test.YtockcifkphfnlaaGreatDoorBase
import Derived.Test.YtockcifkphfnlaaGreatDoorDkL
namespace Go.Proofs.YtockcifkphfnlaaGreatDoor
set_option linter.unusedVariables false
set_option linter.unusedSimpArgs false
section
variable {κ ν μ : Type} [DecidableEq κ]
theorem aput_map (f : ν → μ) (k : κ) (v : ν) : ∀ L : List (κ × ν), (aput k v L).map (fun p => (p.1, f p.2)) = aput k (f v) (L.map (fun p => (p.1, f p.2)))
  | [] => rfl
  | (j, u) :: r => by
    unfold aput
    by_cases h : j = k
    · simp [h]
    · simp [h, aput_map f k v r]
theorem adel_map (f : ν → μ) (k : κ) : ∀ L : List (κ × ν), (adel k L).map (fun p => (p.1, f p.2)) = adel k (L.map (fun p => (p.1, f p.2)))
  | [] => rfl
  | (j, u) :: r => by
    unfold adel
    by_cases h : j = k
    · simp [h]
    · simp [h, adel_map f k r]
theorem aget_map (f : ν → μ) (k : κ) : ∀ L : List (κ × ν), (aget k L).map f = aget k (L.map (fun p => (p.1, f p.2)))
  | [] => rfl
  | (j, u) :: r => by
    unfold aget
    by_cases h : j = k
    · simp [h]
    · simp [h, aget_map f k r]
theorem aget_mem {k : κ} {v : ν} : ∀ {L : List (κ × ν)}, aget k L = some v → (k, v) ∈ L
  | [], h => by cases h
  | x :: r, h => by
    unfold aget at h
    split at h
    · rename_i e
      injection h with h
      rw [← h, ← e]
      exact List.mem_cons_self ..
    · exact List.mem_cons_of_mem _ (aget_mem h)
end
theorem not_mem_filter {κ ν : Type} [BEq κ] [LawfulBEq κ] {k : κ} : ∀ {L : List (κ × ν)}, k ∉ L.map (·.1) → L.filter (fun p => !(p.1 == k)) = L := fun {L} h => by
  rw [List.filter_eq_self]
  intro p hp
  have : p.1 ≠ k := fun e => h (List.mem_map.2 ⟨p, hp, e⟩)
  simpa using this
namespace Dk
theorem aput_perm (k : Str) (v : List UInt8) : ∀ {L : Files}, (L.map (·.1)).Nodup → (aput k v L).Perm ((k, v) :: without L k)
  | [], _ => by simp [aput, without]
  | (j, u) :: r, h => by
    rw [List.map_cons, List.nodup_cons] at h
    unfold aput without
    by_cases e : j = k
    · subst e
      rw [if_pos rfl, List.filter_cons_of_neg (by simp), not_mem_filter h.1]
    · rw [if_neg e, List.filter_cons_of_pos (by simpa using e)]
      exact ((aput_perm k v h.2).cons _).trans (List.Perm.swap _ _ _)
theorem adel_eq (k : Str) : ∀ {L : Files}, (L.map (·.1)).Nodup → adel k L = without L k
  | [], _ => rfl
  | (j, u) :: r, h => by
    rw [List.map_cons, List.nodup_cons] at h
    unfold adel without
    by_cases e : j = k
    · subst e
      rw [if_pos rfl, List.filter_cons_of_neg (by simp), not_mem_filter h.1]
    · rw [if_neg e, List.filter_cons_of_pos (by simpa using e)]
      congr 1
      exact adel_eq k h.2
theorem aget_eq (k : Str) : ∀ L : Files, aget k L = find L k
  | [] => rfl
  | (j, u) :: r => by
    unfold aget find
    by_cases e : j = k
    · subst e
      rw [if_pos rfl, List.find?_cons_of_pos (by simp)]
      rfl
    · rw [if_neg e, List.find?_cons_of_neg (by simpa using e)]
      exact aget_eq k r
theorem asc_nodup {F : Files} (h : Asc F) : (F.map (·.1)).Nodup := by
  have h' : (F.map (·.1)).Pairwise (· < ·) := h
  exact List.Pairwise.imp (S := fun a b => a ≠ b) (fun {a b} (hab : a < b) => fun (e : a = b) => lt_irrefl' b (by rw [e] at hab; exact hab)) h'
theorem perm_find {L F : Files} (hp : L.Perm F) (hF : Asc F) (s : Str) : find L s = find F s := by
  have hn : (L.map (·.1)).Nodup := (hp.map (·.1)).nodup_iff.2 (asc_nodup hF)
  cases hf : find F s with
  | none =>
    rw [find_none] at hf ⊢
    exact fun h => hf ((hp.map (·.1)).mem_iff.1 h)
  | some v =>
    rw [asc_find hF] at hf
    have hm := hp.mem_iff.2 hf
    rw [← aget_eq]
    obtain ⟨j, hj⟩ := List.getElem?_of_mem hm
    exact aget_at hn hj
theorem perm_put {L F : Files} (hp : L.Perm F) (hF : Asc F) (s : Str) (v : List UInt8) : (aput s v L).Perm (with_ F (s, v)) :=
  (aput_perm s v ((hp.map (·.1)).nodup_iff.2 (asc_nodup hF))).trans (((hp.filter _).cons _).trans (with_perm F (s, v)).symm)
theorem perm_del {L F : Files} (hp : L.Perm F) (hF : Asc F) (s : Str) : (adel s L).Perm (without F s) := by
  rw [adel_eq s ((hp.map (·.1)).nodup_iff.2 (asc_nodup hF))]
  exact hp.filter _
end Dk
end Go.Proofs.YtockcifkphfnlaaGreatDoor
