/- Life: plain laws: of nodes that stay as they are, what is asked at each Tick. -/
import Derived.Test.YtaibifaeljnchaaLifeC
namespace Go.Proofs.Ytaibifaeljnchaa
open Go.RowKit

def keyN (x : NodeD) : Key := (false, x.id, x.ep, x.sq)
def askN (x : NodeD) : Ask := ⟨7, 0, 0, x.id, x.ep, x.sq⟩
def upsL (ns : List NodeD) : List NodeD := ns.filter (·.up)
/-- all the clocks of those that are up stand at c -/
def allAt (c : Int) (ns : List NodeD) : List (Key × Int) := (upsL ns).map (fun x => (keyN x, c))
theorem aget_const (c : Int) (k : Key) : ∀ l : List NodeD, aget k (l.map (fun x => (keyN x, c))) = if k ∈ l.map keyN then some c else none
  | [] => by simp [aget]
  | x :: r => by
    rw [List.map_cons, aget, aget_const c k r]
    by_cases e : keyN x = k
    · simp [e]
    · have e' : ¬ k = keyN x := fun h => e h.symm
      simp [e, e']
theorem fold_goes (L : List (Key × Int)) (c' : Int) (ask : Bool) : ∀ (ns : List NodeD) (N : List (Key × Int)) (q : List Ask),
    (∀ x ∈ ns, x.up = true → ∀ N, aget (keyN x) N = none → goesF L N (keyN x) 20 = (N ++ [(keyN x, c')], ask)) →
    (∀ x ∈ ns, ∀ p ∈ N, p.1 ≠ keyN x) → (ns.map (·.id)).Nodup →
    ns.foldl (stepN L) (N, q) = (N ++ allAt c' ns, q ++ if ask then (upsL ns).map askN else [])
  | [], N, q, _, _, _ => by cases ask <;> simp [allAt, upsL]
  | x :: r, N, q, h, hN, hd => by
    rw [List.map_cons, List.nodup_cons] at hd
    rw [List.foldl_cons]
    have hr := fun y hy => h y (List.mem_cons_of_mem _ hy)
    cases hup : x.up with
    | false =>
      have h1 : stepN L (N, q) x = (N, q) := by simp [stepN, hup]
      rw [h1, fold_goes L c' ask r N q hr (fun y hy => hN y (List.mem_cons_of_mem _ hy)) hd.2]
      simp [allAt, upsL, hup]
    | true =>
      have h0 : aget (keyN x) N = none := aget_none (fun p hp => hN x (List.mem_cons_self ..) p hp)
      have h2 := h x (List.mem_cons_self ..) hup N h0
      have h1 : stepN L (N, q) x = (N ++ [(keyN x, c')], q ++ if ask then [askN x] else []) := by
        unfold keyN at h2
        rw [stepN, if_pos hup, h2]; rfl
      rw [h1, fold_goes L c' ask r _ _ hr ?_ hd.2]
      · cases ask <;> simp [allAt, upsL, hup]
      · intro y hy p hp
        rcases List.mem_append.1 hp with hp | hp
        · exact hN y (List.mem_cons_of_mem _ hy) p hp
        · simp at hp
          subst hp
          intro e
          simp only [keyN, Prod.mk.injEq] at e
          exact hd.1 (List.mem_map.2 ⟨y, hy, e.2.1.symm⟩)
theorem tick_first (ns : List NodeD) (hd : (ns.map (·.id)).Nodup) : tickF [] ns [] = (allAt 0 ns, []) := by
  have h := fold_goes [] 0 false ns [] [] (fun x _ _ N hN => by simp [goesF, hN, aget]) (by simp) hd
  simpa [tickF] using h
theorem tick_next (ns : List NodeD) (hd : (ns.map (·.id)).Nodup) (c : Int) (h20 : c + 1 < 20) : tickF (allAt c ns) ns [] = (allAt (c + 1) ns, []) := by
  have h := fold_goes (allAt c ns) (c + 1) false ns [] [] (fun x hx hup N hN => by
    have h1 : aget (keyN x) (allAt c ns) = some c := by
      unfold allAt
      rw [aget_const]
      exact if_pos (List.mem_map.2 ⟨x, List.mem_filter.2 ⟨hx, hup⟩, rfl⟩)
    simp only [goesF, hN, h1]
    have h2 : ¬ 20 ≤ c + 1 := by omega
    rw [if_neg h2]) (by simp) hd
  simpa [tickF] using h
theorem tick_asks (ns : List NodeD) (hd : (ns.map (·.id)).Nodup) (c : Int) (h20 : 20 ≤ c + 1) : tickF (allAt c ns) ns [] = (allAt 17 ns, (upsL ns).map askN) := by
  have h := fold_goes (allAt c ns) 17 true ns [] [] (fun x hx hup N hN => by
    have h1 : aget (keyN x) (allAt c ns) = some c := by
      unfold allAt
      rw [aget_const]
      exact if_pos (List.mem_map.2 ⟨x, List.mem_filter.2 ⟨hx, hup⟩, rfl⟩)
    simp only [goesF, hN, h1]
    rw [if_pos h20]; rfl) (by simp) hd
  simpa [tickF] using h

/-- the clocks behind t Ticks -/
def cAt (t : Nat) : Int := if t ≤ 20 then (t : Int) - 1 else 17 + (t - 21) % 3
def lAt (ns : List NodeD) : Nat → List (Key × Int)
  | 0 => []
  | t + 1 => allAt (cAt (t + 1)) ns
/-- does Tick number t ask? -/
def asksAt (t : Nat) : Bool := decide (21 ≤ t) && (t - 21) % 3 == 0
theorem tick_at (ns : List NodeD) (hd : (ns.map (·.id)).Nodup) (t : Nat) : tickF (lAt ns t) ns [] = (lAt ns (t + 1), if asksAt (t + 1) then (upsL ns).map askN else []) := by
  cases t with
  | zero => simpa [lAt, asksAt, cAt] using tick_first ns hd
  | succ t =>
    by_cases h : asksAt (t + 1 + 1) = true
    · have h' := h
      simp only [asksAt, Bool.and_eq_true, decide_eq_true_eq, beq_iff_eq] at h'
      have h1 : 20 ≤ cAt (t + 1) + 1 := by unfold cAt; split <;> omega
      have h2 : cAt (t + 1 + 1) = 17 := by unfold cAt; split <;> omega
      rw [h, lAt, lAt, h2, tick_asks ns hd _ h1]; rfl
    · have h' := h
      simp only [asksAt, Bool.and_eq_true, decide_eq_true_eq, beq_iff_eq, not_and] at h'
      have h1 : cAt (t + 1) + 1 < 20 := by unfold cAt; split <;> omega
      have h2 : cAt (t + 1 + 1) = cAt (t + 1) + 1 := by unfold cAt; split <;> split <;> omega
      rw [if_neg h, lAt, lAt, h2, tick_next ns hd _ h1]
theorem ids_nodup {own : List NodeD} (h : ∀ (i : Nat) x, own[i]? = some x → x.id = (i : Int) ∧ x.ok) : (own.map (·.id)).Nodup := by
  have e : own.map (·.id) = (List.range own.length).map (fun (i : Nat) => (i : Int)) := by
    apply List.ext_getElem?
    intro i
    rw [List.getElem?_map, List.getElem?_map]
    rcases Nat.lt_or_ge i own.length with hi | hi
    · rw [List.getElem?_eq_getElem hi, List.getElem?_range hi]
      simp [(h i own[i] (List.getElem?_eq_getElem hi)).1]
    · rw [List.getElem?_eq_none hi, List.getElem?_eq_none (by simpa using hi)]; rfl
  rw [e]
  exact List.nodup_iff_pairwise_ne.2 (List.pairwise_map.2 (List.nodup_range.imp (fun h e => h (by omega))))
/-- one that is up, by its place -/
theorem up_at {own : List NodeD} (h : ∀ (i : Nat) x, own[i]? = some x → x.id = (i : Int) ∧ x.ok) {k : Nat} (hk : k < (upsL own).length) : ∃ (j : Nat) (hj : j < own.length), (upsL own)[k] = own[j] ∧ own[j].up = true ∧ own[j].id = (j : Int) := by
  have hm := List.getElem_mem hk
  have hm2 := List.mem_filter.1 (show (upsL own)[k] ∈ own.filter (·.up) from hm)
  obtain ⟨j, hj, he⟩ := List.getElem_of_mem hm2.1
  exact ⟨j, hj, he.symm, by rw [he]; exact hm2.2, (h j own[j] (List.getElem?_eq_getElem hj)).1⟩
end Go.Proofs.Ytaibifaeljnchaa
