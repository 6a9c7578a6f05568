/- Parts of the proof: RoomF Slots11F -/
import Derived.Test.YtccekmeifanipaaGreatQ13
namespace Go.Proofs.YtccekmeifanipaaGreat
set_option linter.unusedVariables false
set_option linter.unusedSimpArgs false
set_option linter.unusedSectionVars false
section
open Go.RowKit
namespace Fsm
def Cv (id : Int) (o : Option BJ) (a : Ac) : Option BJ := if (a.node != id || decide (3 ≤ a.state)) = true then o else match o with | none => none | some r => addF r a.ask
theorem II (id : Int) : ∀ (l : List Ac) (o : Option BJ), l.foldl (Cv id) o = (BH l).foldl (useC id) o
 | [], _ => rfl
 | a :: r, o => by
  rw [List.foldl_cons, II id r]
  unfold BH
  cases h3 : Bc a with
  | true =>
   rw [List.filter_cons_of_neg (by simp [h3])]
   have h4 : Cv id o a = o := by unfold Cv; rw [if_pos (by rw [show decide (3 ≤ a.state) = true from h3]; simp)]
   rw [h4]
  | false =>
   rw [List.filter_cons_of_pos (by simp [h3]), List.map_cons, List.foldl_cons]
   have h4 : Cv id o a = useC id o (core a) := by
    unfold Cv useC
    rw [show decide (3 ≤ a.state) = false from h3, Bool.or_false]
    have e1 : (core a).node = a.node := rfl
    have e2 : (core a).ask = a.ask := rfl
    rw [e1, e2]
    cases h5 : (a.node == id) with
    | true =>
     rw [if_neg (by simp [bne, h5])]
     cases o with
     | none => rfl
     | some r => rfl
    | false =>
     rw [if_pos (by simp [bne, h5])]
     cases o with
     | none => rfl
     | some r => rfl
   rw [h4]
theorem IK (id : Int) : ∀ l : List Ac, l.foldl (Cv id) none = none
 | [] => rfl
 | a :: r => by
  rw [List.foldl_cons, show Cv id none a = none by unfold Cv; split <;> rfl]
  exact IK id r
theorem M8 (id : Int) (l : List Ac) {z r : BJ} (h : l.foldl (Cv id) (some z) = some r) (t : Nat) : ∃ u, (l.take t).foldl (Cv id) (some z) = some u := by
 rw [← List.take_append_drop t l, List.foldl_append] at h
 cases hq : (l.take t).foldl (Cv id) (some z) with
 | some u => exact ⟨u, rfl⟩
 | none => rw [hq, IK] at h; cases h
theorem NK {s : Ab} (h : Inv s) {n : NodD} (hn : n ∈ s.nodes) : ∃ r, s.allocs.foldl (Cv n.id) (some ⟨0, 0⟩) = some r ∧ r.cpu ≤ n.cap.cpu ∧ r.mem ≤ n.cap.mem := by
 obtain ⟨r, h1, h2⟩ := h.room n hn
 exact ⟨r, by rw [II]; exact h1, h2.1, h2.2⟩
end Fsm
end
section
open Go.RowKit
namespace Fsm
theorem Ol {l : List Ac} {a : Ac} (h : a ∈ l) (ho : Bc a = false) : core a ∈ BH l := by
 unfold BH
 exact List.mem_map.2 ⟨a, List.mem_filter.2 ⟨h, by simp [ho]⟩, rfl⟩
theorem O8 {s : Ab} (h : Inv s) {a : Ac} (ha : a ∈ s.allocs) (ho : Bc a = false) : ∃ n, nodeAt s a.node = some n ∧ n.up = true ∧ n.epoch = a.epoch := by
 obtain ⟨n, h1, h2, h3⟩ := h.fenced (core a) (Ol ha ho)
 exact ⟨n, h1, h2, h3⟩
theorem O9 {s : Ab} (h : Inv s) {j k : Nat} {a b : Ac} (hj : s.allocs[j]? = some b) (hk : s.allocs[k]? = some a) (hlt : j < k) (hb : Bc b = false) (ha : Bc a = false) : ¬ (b.job = a.job ∧ b.group = a.group ∧ b.index = a.index) := by
 have h1 := h.slots
 unfold BH at h1
 rw [List.map_map] at h1
 have h2 : (s.allocs.filter (fun a => !Bc a)).Pairwise (fun x y => ¬ (x.job = y.job ∧ x.group = y.group ∧ x.index = y.index)) := by
  rw [List.nodup_iff_pairwise_ne, List.pairwise_map] at h1
  refine h1.imp fun hne hc => hne ?_
  obtain ⟨c1, c2, c3⟩ := hc
  show (_, _, _) = (_, _, _)
  simp [core, c1, c2, c3]
 rw [List.pairwise_filter] at h2
 obtain ⟨hj1, hj2⟩ := List.getElem?_eq_some_iff.1 hj
 obtain ⟨hk1, hk2⟩ := List.getElem?_eq_some_iff.1 hk
 have h3 := List.pairwise_iff_getElem.1 h2 j k hj1 hk1 hlt
 rw [hj2, hk2] at h3
 exact h3 (by simp [hb]) (by simp [ha])
theorem QB {m : Nat} {s : Ab} (h : Num m s) {j k : Nat} {a b : Ac} (hj : s.allocs[j]? = some b) (hk : s.allocs[k]? = some a) (hlt : j < k) : b.id < a.id := by
 have h2 := h.ids
 rw [List.pairwise_map] at h2
 obtain ⟨hj1, hj2⟩ := List.getElem?_eq_some_iff.1 hj
 obtain ⟨hk1, hk2⟩ := List.getElem?_eq_some_iff.1 hk
 have h3 := List.pairwise_iff_getElem.1 h2 j k hj1 hk1 hlt
 rw [hj2, hk2] at h3
 exact h3
end Fsm
end
end Go.Proofs.YtccekmeifanipaaGreat
