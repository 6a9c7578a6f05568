/- A plan is for its job alone: the plain law. No program is named. -/
import Derived.Test.YtfmkoemogicdkaaDiffF
namespace Go.Proofs.Ytfmkoemogicdkaa
set_option linter.unusedVariables false
open Go.RowKit

theorem hold_hit {l : List AllocD} {job : Int} {x : SlotD} {a : AllocD} (h0 : decide (holdI l job x < 0) = false) (ha : l[(holdI l job x).toNat]? = some a) : slotB job x.group x.index a = true := by
  rcases idx_cases (slotB job x.group x.index) l with ⟨h1, _, _⟩ | ⟨i, y, h1, h2, h3, _, _⟩
  · rw [holdI, h1] at h0; exact absurd h0 (by decide)
  · rw [holdI, h1, Int.toNat_natCast, h2] at ha
    injection ha with ha; subst ha; exact h3
theorem slotB_job {j g i : Int} {a : AllocD} (h : slotB j g i a = true) : a.job = j := by
  simp only [slotB, Bool.and_eq_true, beq_iff_eq] at h
  exact h.1.1.1
def OfJob (l : List AllocD) (j : JobD) (s : Int) : Prop := ∃ a ∈ l, a.id = s ∧ a.job = j.id
theorem stops0_of (ns : List NodD) (j : JobD) (l : List AllocD) : ∀ s ∈ (stops0 ns j l).1, OfJob l j s := by
  have h1 : ∀ (r : List (AllocD × Nat)) (st : List Int × List Int), (∀ p ∈ r, p.1 ∈ l) → (∀ s ∈ st.1, OfJob l j s) → ∀ s ∈ (r.foldl (stopStep ns j) st).1, OfJob l j s := fun r => by
    induction r with
    | nil => intro st _ h; exact h
    | cons p r ih =>
      intro st hr hs
      rw [List.foldl_cons]
      refine ih _ (fun q hq => hr q (List.mem_cons_of_mem _ hq)) ?_
      unfold stopStep
      split
      · rename_i hb
        intro s hs'
        rcases List.mem_append.1 hs' with h | h
        · exact hs s h
        · rw [List.mem_singleton] at h
          refine ⟨p.1, hr p (List.mem_cons_self ..), h.symm, ?_⟩
          simp only [stopB, Bool.and_eq_true, beq_iff_eq] at hb
          exact hb.1.1.1
      · exact hs
  exact h1 _ _ (fun p hp => by have := List.mem_zipIdx hp; rw [this.2.2]; exact List.getElem_mem _) (by simp)
theorem roll_of (ns : List NodD) (l : List AllocD) (j : JobD) (st : List Int × List Int) (h : ∀ s ∈ st.1, OfJob l j s) : ∀ s ∈ (rollF ns l j st).2.1, OfJob l j s := by
  have h1 : ∀ (r : List SlotD) (st : Int × List Int × List Int), (∀ s ∈ st.2.1, OfJob l j s) → ∀ s ∈ (r.foldl (rollStep l j) st).2.1, OfJob l j s := fun r => by
    induction r with
    | nil => intro st h; exact h
    | cons x r ih =>
      intro st hs
      rw [List.foldl_cons]
      refine ih _ ?_
      unfold rollStep
      split
      · exact hs
      · split
        · exact hs
        · rename_i hb
          split
          · rename_i a ha
            split
            · exact hs
            · intro s hs'
              rcases List.mem_append.1 hs' with h | h
              · exact hs s h
              · rw [List.mem_singleton] at h
                simp only [Bool.or_eq_true, not_or] at hb
                exact ⟨a, List.mem_of_getElem? ha, h.symm, slotB_job (hold_hit (by simpa using hb.1) ha)⟩
          · exact hs
  exact h1 _ _ h
theorem stops_of (ns : List NodD) (l : List AllocD) (j : JobD) : ∀ s ∈ stopsF ns l j, OfJob l j s := by
  unfold stopsF
  split
  · exact roll_of ns l j _ (stops0_of ns j l)
  · exact stops0_of ns j l

def slotP (p : AllocD) : SlotD := ⟨p.group, p.index⟩
theorem place_fold (ns : List NodD) (l : List AllocD) (j : JobD) : ∀ (r : List SlotD) (st : List AllocD × Bool), ∃ ys, (r.foldl (placeStep ns l j) st).1 = st.1 ++ ys ∧ (∀ p ∈ ys, p.job = j.id) ∧ (ys.map slotP).Sublist r
  | [], st => ⟨[], by simp, by simp, List.Sublist.refl _⟩
  | x :: r, st => by
    obtain ⟨ys, h1, h2, h3⟩ := place_fold ns l j r (placeStep ns l j st x)
    rw [List.foldl_cons, h1]
    unfold placeStep
    split
    · exact ⟨ys, rfl, h2, h3.cons _⟩
    · rename_i node _
      refine ⟨placeOf ns j x node :: ys, by simp, ?_, ?_⟩
      · intro p hp
        rcases List.mem_cons.1 hp with rfl | hp
        · rfl
        · exact h2 p hp
      · exact h3.cons_cons x
theorem places_of (ns : List NodD) (l : List AllocD) (j : JobD) : (∀ p ∈ (placesF ns l j).1, p.job = j.id ∧ holdI l j.id (slotP p) < 0) ∧ ((placesF ns l j).1.map slotP).Nodup := by
  obtain ⟨ys, h1, h2, h3⟩ := place_fold ns l j (fillF ns l j) ([], false)
  have h1' : (placesF ns l j).1 = ys := by rw [placesF, h1]; rfl
  rw [h1']
  refine ⟨fun p hp => ⟨h2 p hp, ?_⟩, List.Nodup.sublist h3 ((slotsF_nodup ns j).filter _)⟩
  have := h3.subset (List.mem_map_of_mem hp)
  have := (List.mem_filter.1 this).2
  simp only [fillB, Bool.and_eq_true, decide_eq_true_eq] at this
  exact this.1

/-- the law, as the walk meets it -/
theorem only_stop {ns : List NodD} {l : List AllocD} {j : JobD} {k : Int} (hk : j.id = k) {i : Nat} {s : Int} (hs : (stopsF ns l j)[i]? = some s) : (l.any fun a => a.id == s && a.job == k) = true := by
  obtain ⟨a, ha, h1, h2⟩ := stops_of ns l j s (List.mem_of_getElem? hs)
  rw [List.any_eq_true]
  exact ⟨a, ha, by simp [h1, h2, hk]⟩
theorem only_place {ns : List NodD} {l : List AllocD} {j : JobD} {k : Int} (hk : j.id = k) {i : Nat} {p : AllocD} (hp : (placesF ns l j).1[i]? = some p) : p.job = k ∧ idxI (slotB k p.group p.index) l < 0 := by
  obtain ⟨h1, h2⟩ := (places_of ns l j).1 p (List.mem_of_getElem? hp)
  subst hk
  exact ⟨h1, h2⟩
theorem only_two {ns : List NodD} {l : List AllocD} {j : JobD} {i k : Nat} {p q : AllocD} (hp : (placesF ns l j).1[i]? = some p) (hq : (placesF ns l j).1[k]? = some q) (h : k < i) : (q.group == p.group && q.index == p.index) = false := by
  have hn := (places_of ns l j).2
  obtain ⟨hi, e1⟩ := List.getElem?_eq_some_iff.1 hp
  obtain ⟨hk, e2⟩ := List.getElem?_eq_some_iff.1 hq
  rw [Bool.eq_false_iff]
  intro he
  simp only [Bool.and_eq_true, beq_iff_eq] at he
  have hne := List.pairwise_iff_getElem.1 hn k i (by simpa using hk) (by simpa using hi) h
  simp only [List.getElem_map] at hne
  rw [e1, e2] at hne
  exact hne (by simp [slotP, he.1, he.2])
end Go.Proofs.Ytfmkoemogicdkaa
