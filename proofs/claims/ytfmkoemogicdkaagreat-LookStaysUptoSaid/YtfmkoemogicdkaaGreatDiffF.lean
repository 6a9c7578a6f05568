/- What the scheduler wishes, as plain functions on plain data: the slots of a job, what is to stop, what is to be filled, where. No program is named. -/
import Derived.Test.YtfmkoemogicdkaaGreatSlot
import Derived.Test.YtfmkoemogicdkaaGreatKeep
namespace Go.Proofs.YtfmkoemogicdkaaGreat
set_option linter.unusedVariables false
open Go.RowKit

structure SlotD where
  group : Int
  index : Int
deriving DecidableEq
def SlotD.cells (x : SlotD) : List Value := [.int .i64 x.group, .int .i64 x.index]

/-! ### the slots of a job -/
def upStep (out : List Int) (n : NodD) : List Int := if n.up && !n.drain && !out.contains n.id then out ++ [n.id] else out
def upNodes (l : List NodD) : List Int := l.foldl upStep []
def countF (g : GroupD) : Nat := (min g.count 4).toNat
def indexesF (ns : List NodD) (ty : Int) (g : GroupD) : List Int := if ty = 3 then upNodes ns else (List.range (countF g)).map (fun i : Nat => (i : Int))
def slotsAt (ns : List NodD) (ty : Int) (k : Nat) (g : GroupD) : List SlotD := (indexesF ns ty g).map (fun i => ⟨k, i⟩)
def slotsOf (ns : List NodD) (ty : Int) (gs : List GroupD) : List SlotD := (gs.zipIdx).flatMap (fun p => slotsAt ns ty p.2 p.1)
def slotsF (ns : List NodD) (j : JobD) : List SlotD := if j.stopped then [] else slotsOf ns j.ty j.groups
theorem slotsOf_succ (ns : List NodD) (ty : Int) (gs : List GroupD) (k : Nat) (h : k < gs.length) : slotsOf ns ty (gs.take (k + 1)) = slotsOf ns ty (gs.take k) ++ slotsAt ns ty k gs[k] := by
  rw [List.take_add_one, List.getElem?_eq_getElem h, slotsOf, List.zipIdx_append, List.flatMap_append]
  simp [slotsOf, Nat.min_eq_left (Nat.le_of_lt h)]
theorem slotsOf_zero (ns : List NodD) (ty : Int) (gs : List GroupD) : slotsOf ns ty (gs.take 0) = [] := by simp [slotsOf]
theorem slotsOf_prefix (ns : List NodD) (ty : Int) (gs : List GroupD) (k : Nat) : slotsOf ns ty (gs.take k) <+: slotsOf ns ty gs := by
  conv => rhs; rw [← List.take_append_drop k gs]
  rw [slotsOf, slotsOf, List.zipIdx_append, List.flatMap_append]
  exact List.prefix_append _ _
theorem upStep_len (out : List Int) (n : NodD) : (upStep out n).length ≤ out.length + 1 := by unfold upStep; split <;> simp
theorem upStep_nodup {out : List Int} (h : out.Nodup) (n : NodD) : (upStep out n).Nodup := by
  unfold upStep
  split
  · rename_i hc
    simp only [Bool.and_eq_true, Bool.not_eq_true', List.contains_eq_mem, decide_eq_false_iff_not] at hc
    exact List.nodup_append.2 ⟨h, by simp, fun a ha b hb => by simp at hb; subst hb; exact fun e => hc.2 (e ▸ ha)⟩
  · exact h
theorem fold_up_len : ∀ (l : List NodD) (out : List Int), (l.foldl upStep out).length ≤ out.length + l.length
  | [], out => by simp
  | n :: r, out => by
    have h1 := fold_up_len r (upStep out n)
    have h2 := upStep_len out n
    simp only [List.foldl_cons, List.length_cons]; omega
theorem fold_up_nodup : ∀ (l : List NodD) {out : List Int}, out.Nodup → (l.foldl upStep out).Nodup
  | [], _, h => h
  | n :: r, _, h => fold_up_nodup r (upStep_nodup h n)
theorem indexes_len (ns : List NodD) (ty : Int) (g : GroupD) : (indexesF ns ty g).length ≤ ns.length + 4 := by
  unfold indexesF
  split
  · have := fold_up_len ns []
    simp only [upNodes, List.length_nil] at this ⊢; omega
  · simp only [List.length_map, List.length_range, countF]; omega
theorem indexes_nodup (ns : List NodD) (ty : Int) (g : GroupD) : (indexesF ns ty g).Nodup := by
  unfold indexesF
  split
  · exact fold_up_nodup ns List.nodup_nil
  · exact List.Pairwise.map (fun i : Nat => (i : Int)) (fun a b h e => h (by exact_mod_cast e)) List.nodup_range
theorem slotsOf_len (ns : List NodD) (ty : Int) (gs : List GroupD) : (slotsOf ns ty gs).length ≤ gs.length * (ns.length + 4) := by
  have : ∀ (l : List (GroupD × Nat)), (l.flatMap (fun p => slotsAt ns ty p.2 p.1)).length ≤ l.length * (ns.length + 4) := fun l => by
    induction l with
    | nil => simp
    | cons p r ih =>
      have := indexes_len ns ty p.1
      simp only [List.flatMap_cons, List.length_append, List.length_cons, slotsAt, List.length_map, Nat.add_mul] at ih ⊢
      omega
  have := this gs.zipIdx
  simpa [slotsOf] using this
theorem slotsF_len (ns : List NodD) (j : JobD) : (slotsF ns j).length ≤ j.groups.length * (ns.length + 4) := by
  unfold slotsF
  split
  · simp
  · exact slotsOf_len ns j.ty j.groups
theorem slotsF_mem {ns : List NodD} {j : JobD} {x : SlotD} (h : x ∈ slotsF ns j) : ∃ k : Nat, k < j.groups.length ∧ x.group = k := by
  unfold slotsF at h
  split at h
  · simp at h
  · simp only [slotsOf, List.mem_flatMap] at h
    obtain ⟨⟨g, k⟩, hm, hx⟩ := h
    have hk := List.mem_zipIdx hm
    simp only [slotsAt, List.mem_map] at hx
    obtain ⟨i, _, rfl⟩ := hx
    exact ⟨k, by simpa using hk.2.1, rfl⟩
theorem slotsF_nodup (ns : List NodD) (j : JobD) : (slotsF ns j).Nodup := by
  unfold slotsF
  split
  · exact List.nodup_nil
  · unfold slotsOf
    have h1 : ∀ (gs : List GroupD) (k : Nat), ((gs.zipIdx k).flatMap (fun p => slotsAt ns j.ty p.2 p.1)).Nodup ∧ ∀ x ∈ (gs.zipIdx k).flatMap (fun p => slotsAt ns j.ty p.2 p.1), (k : Int) ≤ x.group := fun gs => by
      induction gs with
      | nil => intro k; simp
      | cons g r ih =>
        intro k
        obtain ⟨i1, i2⟩ := ih (k + 1)
        rw [List.zipIdx_cons, List.flatMap_cons]
        refine ⟨List.nodup_append.2 ⟨?_, i1, ?_⟩, ?_⟩
        · exact List.Pairwise.map (fun i : Int => (⟨k, i⟩ : SlotD)) (fun a b h e => h (by injection e)) (indexes_nodup ns j.ty g)
        · intro a ha b hb e
          simp only [slotsAt, List.mem_map] at ha
          obtain ⟨i, _, rfl⟩ := ha
          have := i2 b hb
          rw [← e] at this
          simp only at this
          omega
        · intro x hx
          rcases List.mem_append.1 hx with hx | hx
          · simp only [slotsAt, List.mem_map] at hx
            obtain ⟨i, _, rfl⟩ := hx
            exact Int.le_refl _
          · have := i2 x hx
            omega
    exact (h1 j.groups 0).1

/-! ### what is to stop, what is to be filled -/
def drainB (ns : List NodD) (node : Int) : Bool := match ns.find? (fun n => n.id == node) with | some n => n.drain | none => false
/-- allocation a is to stop at once -/
def stopB (ns : List NodD) (j : JobD) (a : AllocD) : Bool :=
  (a.job == j.id && !overB a && !a.stop) && (!(slotsF ns j).contains ⟨a.group, a.index⟩ || drainB ns a.node || (j.ty != 1 && a.ver != j.ver))
/-- the state of the stops: the numbers, and the places -/
def stopStep (ns : List NodD) (j : JobD) (st : List Int × List Int) (p : AllocD × Nat) : List Int × List Int :=
  if stopB ns j p.1 then (st.1 ++ [p.1.id], st.2 ++ [(p.2 : Int)]) else st
def stops0 (ns : List NodD) (j : JobD) (l : List AllocD) : List Int × List Int := l.zipIdx.foldl (stopStep ns j) ([], [])
def holdI (l : List AllocD) (job : Int) (x : SlotD) : Int := idxI (slotB job x.group x.index) l
/-- is a slot under change -/
def movB (l : List AllocD) (j : JobD) (stops : List Int) (x : SlotD) : Bool :=
  decide (holdI l j.id x < 0) || stops.contains (holdI l j.id x) || (match l[(holdI l j.id x).toNat]? with | some a => a.stop || (a.ver == j.ver && a.state != 2) | none => false)
def movStep (l : List AllocD) (j : JobD) (stops : List Int) (m : Int) (x : SlotD) : Int := if movB l j stops x then wrap64 (m + 1) else m
def rollStep (l : List AllocD) (j : JobD) (st : Int × List Int × List Int) (x : SlotD) : Int × List Int × List Int :=
  if st.1 ≥ j.par then st else
  if decide (holdI l j.id x < 0) || st.2.2.contains (holdI l j.id x) then st else
  match l[(holdI l j.id x).toNat]? with
  | some a => if a.stop || a.ver == j.ver then st else (wrap64 (st.1 + 1), st.2.1 ++ [a.id], st.2.2 ++ [holdI l j.id x])
  | none => st
def rollF (ns : List NodD) (l : List AllocD) (j : JobD) (st : List Int × List Int) : Int × List Int × List Int :=
  (slotsF ns j).foldl (rollStep l j) ((slotsF ns j).foldl (movStep l j st.2) 0, st)
def stopsF (ns : List NodD) (l : List AllocD) (j : JobD) : List Int := if j.ty = 1 then (rollF ns l j (stops0 ns j l)).2.1 else (stops0 ns j l).1
def doneB (l : List AllocD) (j : JobD) (x : SlotD) : Bool := j.ty == 2 && l.any (fun a => a.job == j.id && a.ver == j.ver && a.group == x.group && a.index == x.index && a.state == 3)
def fillB (l : List AllocD) (j : JobD) (x : SlotD) : Bool := decide (holdI l j.id x < 0) && !doneB l j x
def fillF (ns : List NodD) (l : List AllocD) (j : JobD) : List SlotD := (slotsF ns j).filter (fillB l j)

/-! ### where -/
def big : ResD := ⟨1152921504606846976, 1152921504606846976⟩
/-- what is used on a node: some sum, or it could not be added -/
def useStep (node : Int) (o : Option ResD) (a : AllocD) : Option ResD := match o with | none => none | some r => if a.node == node && !overB a then addF r a.ask else some r
def usedS (l : List AllocD) (node : Int) : ResD := (l.foldl (useStep node) (some ⟨0, 0⟩)).getD big
def moreStep (node : Int) (o : Option ResD) (a : AllocD) : Option ResD := match o with | none => none | some r => if a.node == node then addF r a.ask else some r
def usedM (l more : List AllocD) (node : Int) : Option ResD := more.foldl (moreStep node) (some (usedS l node))
def mayF (ns : List NodD) (l more : List AllocD) (node : Int) (ask : ResD) : Bool :=
  match ns.find? (fun n => n.id == node) with
  | none => false
  | some n => n.up && !n.drain && (match usedM l more node with | some r => fitsF r ask n.cap | none => false)
def leftF (n : NodD) (r ask : ResD) : Int := wrap64 (wrap64 (wrap64 (n.cap.cpu - r.cpu) - ask.cpu) + wrap64 (wrap64 (n.cap.mem - r.mem) - ask.mem))
def bestStep (ns : List NodD) (l more : List AllocD) (ask : ResD) (o : Option (Int × Int)) (x : NodD) : Option (Int × Int) :=
  if mayF ns l more x.id ask then
    match ns.find? (fun n => n.id == x.id) with
    | none => o
    | some n =>
      let left := leftF n (optR (usedM l more n.id)) ask
      match o with
      | none => some (n.id, left)
      | some b => if left < b.2 || (left == b.2 && decide (n.id < b.1)) then some (n.id, left) else some b
  else o
def bestF (ns : List NodD) (l more : List AllocD) (ask : ResD) : Option (Int × Int) := ns.foldl (bestStep ns l more ask) none
structure PlanD where
  job : Int
  ver : Int
  index : Int
  stops : List Int
  places : List AllocD
  blocked : Bool
deriving DecidableEq
def askAt (j : JobD) (x : SlotD) : ResD := match j.groups[x.group.toNat]? with | some g => g.ask | none => ⟨0, 0⟩
def nodeFor (ns : List NodD) (l more : List AllocD) (j : JobD) (x : SlotD) : Option Int :=
  if j.ty = 3 then (if mayF ns l more x.index (askAt j x) then some x.index else none) else (bestF ns l more (askAt j x)).map (·.1)
def epochAt (ns : List NodD) (node : Int) : Int := match ns.find? (fun n => n.id == node) with | some n => n.epoch | none => 0
def placeOf (ns : List NodD) (j : JobD) (x : SlotD) (node : Int) : AllocD := ⟨0, j.id, j.ver, x.group, x.index, node, epochAt ns node, askAt j x, false, 0⟩
def placeStep (ns : List NodD) (l : List AllocD) (j : JobD) (st : List AllocD × Bool) (x : SlotD) : List AllocD × Bool :=
  match nodeFor ns l st.1 j x with
  | none => (st.1, true)
  | some node => (st.1 ++ [placeOf ns j x node], st.2)
def placesF (ns : List NodD) (l : List AllocD) (j : JobD) : List AllocD × Bool := (fillF ns l j).foldl (placeStep ns l j) ([], false)
def evIndex (evals : List EvalD) (job : Int) : Int := match evals.find? (fun e => e.job == job) with | some e => e.index | none => 0
def planF (s : StoreD) (job : Int) : PlanD :=
  match s.jobs.find? (fun x => x.id == job) with
  | none => ⟨0, 0, 0, [], [], false⟩
  | some j => ⟨j.id, j.ver, evIndex s.evals job, stopsF s.nodes s.allocs j, (placesF s.nodes s.allocs j).1, (placesF s.nodes s.allocs j).2⟩
end Go.Proofs.YtfmkoemogicdkaaGreat
