/- A plan on any store that is handed in: what it holds obeys the law of SchedOnly, its rows are its own. -/
import Derived.Test.YtfmkoemogicdkaaPlan
import Derived.Test.YtfmkoemogicdkaaOnlyF
import Derived.Test.YtfmkoemogicdkaaSchedR
namespace Go.Proofs.Ytfmkoemogicdkaa
set_option linter.unusedVariables false
open Go.RowKit

theorem roll_len (ns : List NodD) (l : List AllocD) (j : JobD) : ∀ (r : List SlotD) (st : Int × List Int × List Int), (r.foldl (rollStep l j) st).2.1.length ≤ st.2.1.length + r.length
  | [], st => by simp
  | x :: r, st => by
    have h1 := roll_len ns l j r (rollStep l j st x)
    have h2 : (rollStep l j st x).2.1.length ≤ st.2.1.length + 1 := by
      unfold rollStep
      split
      · simp
      · split
        · simp
        · split
          · split <;> simp
          · simp
    simp only [List.foldl_cons, List.length_cons]; omega
theorem stops0_len (ns : List NodD) (j : JobD) : ∀ (r : List (AllocD × Nat)) (st : List Int × List Int), (r.foldl (stopStep ns j) st).1.length ≤ st.1.length + r.length
  | [], st => by simp
  | x :: r, st => by
    have h1 := stops0_len ns j r (stopStep ns j st x)
    have h2 : (stopStep ns j st x).1.length ≤ st.1.length + 1 := by
      unfold stopStep
      split <;> simp
    simp only [List.foldl_cons, List.length_cons]; omega
theorem stopsF_len (ns : List NodD) (l : List AllocD) (j : JobD) : (stopsF ns l j).length ≤ l.length + (slotsF ns j).length := by
  have h1 := stops0_len ns j l.zipIdx ([], [])
  simp only [List.length_nil, List.length_zipIdx] at h1
  unfold stopsF
  split
  · unfold rollF
    have h2 : _ ≤ (stops0 ns j l).1.length + (slotsF ns j).length := roll_len ns l j (slotsF ns j) ((slotsF ns j).foldl (movStep l j (stops0 ns j l).2) 0, stops0 ns j l)
    have h3 : (stops0 ns j l).1.length ≤ l.length := by unfold stops0; omega
    omega
  · unfold stops0; omega
theorem placesF_len (ns : List NodD) (l : List AllocD) (j : JobD) : (placesF ns l j).1.length ≤ (slotsF ns j).length := by
  obtain ⟨ys, h1, _, h3⟩ := place_fold ns l j (fillF ns l j) ([], false)
  have h2 := h3.length_le
  have h4 : (fillF ns l j).length ≤ (slotsF ns j).length := List.length_filter_le _ _
  rw [List.length_map] at h2
  have h5 : (placesF ns l j).1 = ys := by rw [placesF, h1]; rfl
  rw [h5]; omega

structure OnlyOk (l : List AllocD) (k : Int) (stops : List Int) (places : List AllocD) : Prop where
  stop : ∀ (i : Nat) (s : Int), stops[i]? = some s → (l.any fun a => a.id == s && a.job == k) = true
  place : ∀ (i : Nat) (p : AllocD), places[i]? = some p → p.job = k ∧ idxI (slotB k p.group p.index) l < 0
  two : ∀ (i m : Nat) (p q : AllocD), places[i]? = some p → places[m]? = some q → m < i → (q.group == p.group && q.index == p.index) = false
  len1 : stops.length ≤ 2000000000000
  len2 : places.length ≤ 2000000000000

/-- a plan's cells and rows -/
def PlanIs (base : Nat) (w' : World) (l : List AllocD) (k : Int) (e : Ending) : Prop :=
  ∃ (i0 i1 i2 : Int) (bl : Bool) (stops : List Int) (places : List AllocD) (A1 : Option Addr) (c1 : Nat) (A2 : Option Addr) (c2 : Nat),
    e = .returned (.agg #[.int .i64 i0, .int .i64 i1, .int .i64 i2, .slice A1 stops.length c1, .slice A2 places.length c2, .bool bl]) ∧ OnlyOk l k stops places ∧
    w'.ownsRow base 3 1 (.slice A1 stops.length c1) stops.length (stops.flatMap intC) ∧ w'.ownsRow base 40 11 (.slice A2 places.length c2) places.length (places.flatMap AllocD.cells)
theorem plan_any (s : StoreV) (k : Int) (w : World) (h : s.Ok w) :
    Calls Try.prog 8 #[.agg #[.int .i64 s.index, .int .i64 s.next, .slice s.AJ s.nJ s.cJ, .slice s.AS s.nS s.cS, .slice s.AN s.nN s.cN, .slice s.AA s.nA s.cA, .slice s.AE s.nE s.cE, .slice s.AD s.nD s.cD, .slice s.AX s.nX s.cX], .int .i64 k] w fun e w' => PlanIs w.heap.size w' s.allocs k e ∧ Ext Nothing w w' := by
  rcases idx_cases (fun x : JobV => x.1.id == k) s.jobs with ⟨hp, _, _⟩ | ⟨ix, ⟨j, vg⟩, hp, hix, hid, _, _⟩
  · refine (plan_none s.AJ s.nJ s.cJ s.jobs k w _ _ _ _ _ _ _ _ h.sJ (by have := h.mJ; omega) hp).mono fun e w' ⟨he, hx⟩ => ⟨⟨0, 0, 0, false, [], [], none, 0, none, 0, he, ?_, World.ownsRow_nil .., World.ownsRow_nil ..⟩, hx⟩
    exact ⟨by simp, by simp, by simp, by simp, by simp⟩
  · have hid' : j.id = k := by simpa using hid
    have hmem := List.mem_of_getElem? hix
    obtain ⟨_, AG, nG, cG, hv, hG, _, hnG⟩ := h.kJ _ hmem
    simp only at hv hG
    subst hv
    have hslots : (slotsF s.nodes j).length ≤ 1048576 * 1048580 := Nat.le_trans (slotsF_len s.nodes j) (Nat.mul_le_mul (by have := hG.len; omega) (by have := h.sN.len; have := h.mN; omega))
    refine (plan_some s.AJ s.nJ s.cJ s.jobs k ix j AG nG cG s.AN s.nN s.cN s.nodes s.AA s.nA s.cA s.allocs s.AE s.nE s.cE s.evals w _ _ _ _ _ h.sJ h.mJ hp hix hG h.sN h.sA h.sE hnG h.mN h.mA h.mE (fun n hn => (h.kN n hn).1) (fun a ha => ⟨(h.kA a ha).2.2.2.1, (h.kA a ha).2.2.2.2.1⟩)).mono fun e w' ⟨A1, c1, A2, c2, he, o1, o2, hx⟩ => ⟨⟨j.id, j.ver, _, _, stopsF s.nodes s.allocs j, (placesF s.nodes s.allocs j).1, A1, c1, A2, c2, he, ?_, o1, o2⟩, hx⟩
    have hlA := h.sA.len
    have hmA := h.mA
    exact ⟨fun i x hx => only_stop hid' hx, fun i p hp => only_place hid' hp, fun i m p q hp hq hlt => only_two hp hq hlt, by have := stopsF_len s.nodes s.allocs j; omega, by have := placesF_len s.nodes s.allocs j; omega⟩
end Go.Proofs.Ytfmkoemogicdkaa
