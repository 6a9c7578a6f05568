/- The machine of a client, plain: its state, its methods; tasks by number; no program is named. -/
import Derived.Test.YtockcifkphfnlaaGreatDoorStore
import Derived.Test.YtockcifkphfnlaaGreatDoorDkA
import Derived.Lib.AppendIntMem
import Derived.Lib.ItoaLen
namespace Go.Proofs.YtockcifkphfnlaaGreatDoor
set_option linter.unusedVariables false
set_option linter.unusedSimpArgs false
namespace Ag

/-- a task: its allocation, its state -/
abbrev TaskD := AllocD × Int
abbrev Tasks := List (Int × TaskD)
def tfind (T : Tasks) (k : Int) : Option TaskD := (T.find? (fun p => p.1 == k)).map (·.2)
def twithout (T : Tasks) (k : Int) : Tasks := T.filter (fun p => !(p.1 == k))
def tput (T : Tasks) (k : Int) (v : TaskD) : Tasks := (twithout T k).takeWhile (fun p => decide (p.1 < k)) ++ (k, v) :: (twithout T k).dropWhile (fun p => decide (p.1 < k))
abbrev TAsc (T : Tasks) : Prop := (T.map (·.1)).Pairwise (· < ·)
theorem twithout_keys (T : Tasks) (k : Int) : (twithout T k).map (·.1) = (T.map (·.1)).filter (fun j => !(j == k)) := by
  unfold twithout
  induction T with
  | nil => rfl
  | cons p r ih =>
    rw [List.filter_cons, List.map_cons, List.filter_cons]
    split <;> simp_all
theorem twithout_asc {T : Tasks} (h : TAsc T) (k : Int) : TAsc (twithout T k) := by
  unfold TAsc
  rw [twithout_keys]
  exact h.filter _
theorem mem_twithout {T : Tasks} {k : Int} {p : Int × TaskD} : p ∈ twithout T k ↔ p ∈ T ∧ p.1 ≠ k := by
  unfold twithout
  rw [List.mem_filter]
  simp
theorem tput_perm (T : Tasks) (k : Int) (v : TaskD) : (tput T k v).Perm ((k, v) :: twithout T k) := by
  unfold tput
  refine List.perm_middle.trans ?_
  rw [List.takeWhile_append_dropWhile]
theorem tput_mem {T : Tasks} {k : Int} {v : TaskD} {p : Int × TaskD} : p ∈ tput T k v ↔ p = (k, v) ∨ (p ∈ T ∧ p.1 ≠ k) := by
  rw [(tput_perm T k v).mem_iff, List.mem_cons, mem_twithout]
theorem tins_asc : ∀ {l : Tasks} {f : Int × TaskD}, TAsc l → (∀ g ∈ l, g.1 ≠ f.1) → TAsc (l.takeWhile (fun g => decide (g.1 < f.1)) ++ f :: l.dropWhile (fun g => decide (g.1 < f.1)))
  | [], f, _, _ => by simp [TAsc]
  | g :: r, f, h, hn => by
    have h' : (∀ k ∈ r.map (·.1), g.1 < k) ∧ TAsc r := by
      have := h
      unfold TAsc at this ⊢
      rw [List.map_cons, List.pairwise_cons] at this
      exact this
    by_cases hg : g.1 < f.1
    · rw [List.takeWhile_cons_of_pos (by simpa using hg), List.dropWhile_cons_of_pos (by simpa using hg)]
      have ih := tins_asc (f := f) h'.2 (fun x hx => hn x (List.mem_cons_of_mem _ hx))
      unfold TAsc at ih ⊢
      rw [List.cons_append, List.map_cons, List.pairwise_cons]
      refine ⟨fun k hk => ?_, ih⟩
      obtain ⟨x, hx, rfl⟩ := List.mem_map.1 hk
      rcases List.mem_append.1 hx with hx | hx
      · exact h'.1 _ (List.mem_map_of_mem ((List.takeWhile_sublist _).mem hx))
      · rcases List.mem_cons.1 hx with rfl | hx
        · exact hg
        · exact h'.1 _ (List.mem_map_of_mem ((List.dropWhile_sublist _).mem hx))
    · rw [List.takeWhile_cons_of_neg (by simpa using hg), List.dropWhile_cons_of_neg (by simpa using hg)]
      have hfg : f.1 < g.1 := by have := hn g (List.mem_cons_self ..); omega
      unfold TAsc at h ⊢
      rw [List.nil_append, List.map_cons, List.pairwise_cons]
      refine ⟨fun k hk => ?_, h⟩
      rw [List.map_cons, List.mem_cons] at hk
      rcases hk with rfl | hk
      · exact hfg
      · have := h'.1 k hk; omega
theorem tput_asc {T : Tasks} (h : TAsc T) (k : Int) (v : TaskD) : TAsc (tput T k v) := tins_asc (f := (k, v)) (twithout_asc h _) (fun g hg => (mem_twithout.1 hg).2)
theorem asc_nodup {T : Tasks} (h : TAsc T) : (T.map (·.1)).Nodup := List.Pairwise.imp (fun {a b} (hab : a < b) => by omega) h
theorem aput_perm (k : Int) (v : TaskD) : ∀ {L : Tasks}, (L.map (·.1)).Nodup → (aput k v L).Perm ((k, v) :: twithout L k)
  | [], _ => by simp [aput, twithout]
  | (j, u) :: r, h => by
    rw [List.map_cons, List.nodup_cons] at h
    unfold aput twithout
    by_cases e : j = k
    · subst e
      rw [if_pos rfl, List.filter_cons_of_neg (by simp), not_mem_filter h.1]
    · rw [if_neg e, List.filter_cons_of_pos (by simpa using e)]
      exact ((aput_perm k v h.2).cons _).trans (List.Perm.swap _ _ _)
theorem aget_eq (k : Int) : ∀ L : Tasks, aget k L = tfind L k
  | [] => rfl
  | (j, u) :: r => by
    unfold aget tfind
    by_cases e : j = k
    · subst e
      rw [if_pos rfl, List.find?_cons_of_pos (by simp)]
      rfl
    · rw [if_neg e, List.find?_cons_of_neg (by simpa using e)]
      exact aget_eq k r
theorem tfind_none {T : Tasks} {k : Int} : tfind T k = none ↔ k ∉ T.map (·.1) := by
  unfold tfind
  rw [Option.map_eq_none_iff, List.find?_eq_none]
  constructor
  · intro h hm
    obtain ⟨f, hf, rfl⟩ := List.mem_map.1 hm
    exact h f hf (by simp)
  · intro h f hf e
    simp only [beq_iff_eq] at e
    exact h (List.mem_map.2 ⟨f, hf, e⟩)
theorem tfind_mem {T : Tasks} (h : TAsc T) {k : Int} {v : TaskD} : tfind T k = some v ↔ (k, v) ∈ T := by
  rw [← aget_eq]
  constructor
  · exact aget_mem
  · intro hm
    obtain ⟨j, hj⟩ := List.getElem?_of_mem hm
    exact aget_at (asc_nodup h) hj
theorem perm_tfind {L T : Tasks} (hp : L.Perm T) (hT : TAsc T) (k : Int) : aget k L = tfind T k := by
  have hn : (L.map (·.1)).Nodup := (hp.map (·.1)).nodup_iff.2 (asc_nodup hT)
  cases hf : tfind T k with
  | none =>
    rw [tfind_none] at hf
    rw [aget_eq, tfind_none]
    exact fun h => hf ((hp.map (·.1)).mem_iff.1 h)
  | some v =>
    rw [tfind_mem hT] at hf
    obtain ⟨j, hj⟩ := List.getElem?_of_mem (hp.mem_iff.2 hf)
    exact aget_at hn hj
theorem perm_tput {L T : Tasks} (hp : L.Perm T) (hT : TAsc T) (k : Int) (v : TaskD) : (aput k v L).Perm (tput T k v) :=
  (aput_perm k v ((hp.map (·.1)).nodup_iff.2 (asc_nodup hT))).trans (((hp.filter _).cons _).trans (tput_perm T k v).symm)

/-- the machine -/
structure AgD where
  servers : Int
  boot : Int
  down : Bool
  clock : Int
  epoch : Int
  lease : Int
  seq : Int
  taken : Int
  beats : List (Int × Int)
  tasks : Tasks
  count : Int
  hint : Int
/-- no beat is known -/
def noBeats : List (Int × Int) := List.replicate 8 (0, 0)
def bootName : Dk.Str := [98, 111, 111, 116]
/-- the boot number is raised: the machine, the disk, the answer -/
def boots (s : AgD) (d : Dk.DiskD) : AgD × Dk.DiskD × Int :=
  if 1099511627776 ≤ s.boot then ({ s with down := true }, d, 2)
  else if (d.write 1 bootName (Lib.itoa (s.boot + 1))).2 ≠ 0 then ({ s with down := true }, (d.write 1 bootName (Lib.itoa (s.boot + 1))).1, (d.write 1 bootName (Lib.itoa (s.boot + 1))).2)
  else if (d.write 1 bootName (Lib.itoa (s.boot + 1))).1.sync.2 ≠ 0 then ({ s with down := true }, (d.write 1 bootName (Lib.itoa (s.boot + 1))).1.sync.1, (d.write 1 bootName (Lib.itoa (s.boot + 1))).1.sync.2)
  else ({ s with boot := s.boot + 1, down := false }, (d.write 1 bootName (Lib.itoa (s.boot + 1))).1.sync.1, 0)
def yields (s : AgD) (d : Dk.DiskD) : AgD × Dk.DiskD × Int := boots { s with tasks := [], epoch := 0, lease := 0, seq := 0, taken := 0, beats := noBeats } d
/-- what is told is run -/
def told1 (s : AgD) (T : Tasks) (x : AllocD) : Tasks :=
  if x.node ≠ 2 ∨ x.epoch ≠ s.epoch then T
  else match tfind s.tasks x.id with
    | none => tput T x.id (x, if x.stop then 5 else 2)
    | some t => tput T x.id (t.1, if x.stop ∧ t.2 < 3 then 5 else t.2)
def told (s : AgD) (l : List AllocD) : AgD := { s with tasks := l.foldl (told1 s) [] }
def exit (s : AgD) (k : Int) (failed : Bool) : AgD × Bool :=
  match tfind s.tasks k with
  | none => (s, false)
  | some t => if t.2 = 2 then ({ s with tasks := tput s.tasks k (t.1, if failed then 4 else 3) }, true) else (s, false)
def running (s : AgD) : List AllocD := (s.tasks.filter (fun p => p.2.2 == 2)).map (·.2.1)
theorem told1_asc (s : AgD) {T : Tasks} (h : TAsc T) (x : AllocD) : TAsc (told1 s T x) := by
  unfold told1
  split
  · exact h
  · split
    · exact tput_asc h _ _
    · exact tput_asc h _ _
theorem told_asc (s : AgD) : ∀ (l : List AllocD) {T : Tasks}, TAsc T → TAsc (l.foldl (told1 s) T)
  | [], _, h => h
  | x :: r, _, h => told_asc s r (told1_asc s h x)
end Ag
end Go.Proofs.YtockcifkphfnlaaGreatDoor
