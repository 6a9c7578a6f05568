/- The evaluator's operations that read or write memory do what the model's do: loads, stores, slices, pointers. -/
import Derived.Test.YtgjabfpkbcdkcaaGreatDoorEvM
import Derived.WalkKit
namespace Go.Proofs.YtgjabfpkbcdkcaaGreatDoor
set_option linter.unusedVariables false
set_option linter.unusedSimpArgs false
/-- what the evaluator is told of a type is the program's -/
theorem tab_ok {t : TypeId} {d : TypeDesc} {i : TypeInfo} (h : tabE t = some ⟨d, i⟩) : PP.underlying t = some d ∧ PP.info? t = some i := by
  have h1 := mkT_get _ 10 1 0 t _ h
  rw [Nat.one_mul, Nat.add_zero] at h1
  have hn : ∀ u j, nth PP.types.toList u = some j → PP.info? u = some j := fun u j hu => by
    rw [nth_eq] at hu
    have hlt := (List.getElem?_eq_some_iff.1 hu).1
    unfold Tables.info?
    rw [if_pos (by simpa using hlt)]
    simpa using hu
  unfold infoAt at h1
  cases hj : nth PP.types.toList t with
  | none => rw [hj] at h1; cases h1
  | some j =>
    rw [hj] at h1
    have hi := hn t j hj
    unfold Program.underlying
    rw [hi]
    obtain ⟨desc, str, size, bytes, hp, al, fa, z, cm, ms⟩ := j
    cases desc with
    | named n u =>
      simp only at h1
      cases hu : nth PP.types.toList u with
      | none => rw [hu] at h1; cases h1
      | some k =>
        rw [hu] at h1
        simp only [Option.some.injEq, Ty.mk.injEq] at h1
        obtain ⟨rfl, rfl⟩ := h1
        exact ⟨by simp [hn u k hu], rfl⟩
    | _ =>
      simp only [Option.some.injEq, Ty.mk.injEq] at h1
      obtain ⟨rfl, rfl⟩ := h1
      exact ⟨rfl, rfl⟩
theorem addr_add (b o j : Nat) : (⟨b, o, none⟩ : Addr).add j = ⟨b, o + j, none⟩ := by unfold Addr.add; split <;> simp_all
section
variable {w0 : Base} {w w' : World} {E E' : En} {H H' : Hp} {t : TypeId} {d : TypeDesc} {i : TypeInfo}
theorem run_isAgg (h : PP.underlying t = some d) : (isAgg t).run PP w = .ok (isAggD d) w := by cases d <;> simp [isAgg, run_underlying h, isAggD]
theorem run_sizeOf (h : PP.info? t = some i) : (sizeOf t).run PP w = .ok i.size w := by simp [sizeOf, typeInfo, h]
theorem run_zeroValue {z : Value} (h : PP.info? t = some i) (hz : i.zero = some z) : (zeroValue t).run PP w = .ok z w := by simp [zeroValue, typeInfo, h, hz]
theorem sizeE_ok {n : Nat} (h : sizeE t = some n) : ∃ i, PP.info? t = some i ∧ i.size = n := by
  unfold sizeE at h
  cases ht : tabE t with
  | none => rw [ht] at h; cases h
  | some x => obtain ⟨d, i⟩ := x; rw [ht] at h; exact ⟨i, (tab_ok ht).2, by simpa using h⟩
theorem zeroE_ok {z : Value} (h : zeroE t = some z) : ∃ i, PP.info? t = some i ∧ i.zero = some z ∧ afree z = true := by
  unfold zeroE at h
  cases ht : tabE t with
  | none => rw [ht] at h; cases h
  | some x =>
    obtain ⟨d, i⟩ := x
    rw [ht] at h
    cases hz : i.zero with
    | none => simp [hz] at h
    | some y =>
      simp only [hz] at h
      cases ha : afree y with
      | false => rw [ha] at h; cases h
      | true => rw [ha] at h; simp only [cond_true, Option.some.injEq] at h; subst h; exact ⟨i, (tab_ok ht).2, hz, ha⟩
/-- the cells that the evaluator knows of a block -/
theorem cellsOf_ok (S : Sim PP w0 E H w) {id : Nat} {cs : List Value} (h : cellsOf H id = some cs) :
    (E id).isSome = true ∧ ∃ arr ty fr, w.heap[E.blk id]? = some (.cells arr ty fr) ∧ cs.length ≤ arr.size ∧ ∀ (j : Nat) v, cs[j]? = some v → good E v ∧ w.cell? ⟨E.blk id, j, none⟩ = some (conc E v) := by
  unfold cellsOf at h
  cases hg : H.t.get id with
  | none => simp [hg] at h
  | some o =>
    cases o with
    | cells ty cs' opn ro =>
      simp only [hg, Option.some.injEq] at h
      subst h
      obtain ⟨b, c, hE, hb, arr, fr, h1, h2, ⟨rest, h3, _⟩, _⟩ := S.at_ hg (by intro q; simp)
      have hbk : E.blk id = b := by simp [En.blk, hE]
      refine ⟨by rw [hE]; rfl, arr, ty, fr, by rw [hbk]; exact h1, ?_, fun j v hv => ⟨h2 v (List.mem_of_getElem? hv), ?_⟩⟩
      · have := congrArg List.length h3
        simp at this
        omega
      · rw [hbk]
        have hj := (List.getElem?_eq_some_iff.1 hv).1
        have : arr[j]? = some (conc E v) := by
          rw [← Array.getElem?_toList, h3, List.getElem?_append_left (by simpa using hj)]
          simp [hv]
        simp [World.cell?, h1, this]
    | _ => simp [hg] at h
theorem part_ok (S : Sim PP w0 E H w) {id off n : Nat} {cs l : List Value} (hc : cellsOf H id = some cs) (h : part? cs off n = some l) :
    l.length = n ∧ (∀ v ∈ l, good E v) ∧ ∀ (j : Nat) v, (l.map (conc E))[j]? = some v → w.cell? ((⟨E.blk id, off, none⟩ : Addr).add j) = some v := by
  obtain ⟨h1, h2, h3⟩ := part?_some h
  obtain ⟨_, arr, ty, fr, _, _, hall⟩ := cellsOf_ok S hc
  have key : ∀ (j : Nat) v, l[j]? = some v → cs[off + j]? = some v := fun j v hv => by
    subst h1
    have hj := (List.getElem?_eq_some_iff.1 hv).1
    rw [List.getElem?_take] at hv
    split at hv
    · rwa [List.getElem?_drop] at hv
    · cases hv
  refine ⟨h2, fun v hv => ?_, fun j v hv => ?_⟩
  · obtain ⟨j, hj⟩ := List.mem_iff_getElem?.1 hv
    exact (hall _ _ (key j v hj)).1
  · rw [List.getElem?_map] at hv
    cases hu : l[j]? with
    | none => simp [hu] at hv
    | some u =>
      simp only [hu, Option.map_some, Option.some.injEq] at hv
      rw [addr_add, ← hv]
      exact (hall _ _ (key j u hu)).2
theorem partAt_good {n off : Nat} {cs : List Value} {v : Value} (hg : ∀ x ∈ cs, good E x) (h : partAt? d n cs off = some v) : good E v := by
  unfold partAt? at h
  cases ha : isAggD d with
  | true =>
    rw [ha, cond_true] at h
    cases hp : part? cs off n with
    | none => simp [hp] at h
    | some l =>
      simp only [hp, Option.some.injEq] at h
      subst h
      obtain ⟨h1, _, _⟩ := part?_some hp
      refine goodL_iff.2 fun x hx => ?_
      subst h1
      exact hg x (List.mem_of_mem_drop (List.mem_of_mem_take hx))
  | false =>
    rw [ha, cond_false, nth_eq] at h
    exact hg v (List.mem_of_getElem? h)
/-- a part of a struct's or an array's cells -/
theorem run_part {off : Nat} {cs : List Value} {v : Value} (ht : tabE t = some ⟨d, i⟩) (hg : ∀ x ∈ cs, good E x) (h : partAt? d i.size cs off = some v) :
    (part t ⟨cs.map (conc E)⟩ off).run PP w = .ok (conc E v) w ∧ good E v := by
  refine ⟨?_, partAt_good hg h⟩
  obtain ⟨hu, hi⟩ := tab_ok ht
  unfold partAt? at h
  cases ha : isAggD d with
  | true =>
    rw [ha, cond_true] at h
    cases hp : part? cs off i.size with
    | none => simp [hp] at h
    | some l =>
      simp only [hp, Option.some.injEq] at h
      subst h
      obtain ⟨h1, h2, h3⟩ := part?_some hp
      simp [part, run_isAgg hu, ha, run_sizeOf hi, conc, concA_mk]
      rw [h1]; simp [List.map_take, List.map_drop]
  | false =>
    rw [ha, cond_false, nth_eq] at h
    simp [part, run_isAgg hu, ha, h]
theorem load_ok (S : Sim PP w0 E H w) {p v : Value} (h : loadE t p H = some v) : (Instr.loadAt t (conc E p)).run PP w = .ok (conc E v) w ∧ good E v := by
  unfold loadE at h
  split at h
  · rename_i id off
    split at h
    · rename_i cs d i hc ht
      obtain ⟨hu, hi⟩ := tab_ok ht
      obtain ⟨_, arr, ty, fr, _, _, hall⟩ := cellsOf_ok S hc
      refine ⟨?_, partAt_good (fun x hx => let ⟨j, hj⟩ := List.mem_iff_getElem?.1 hx; (hall j x hj).1) h⟩
      unfold partAt? at h
      cases ha : isAggD d with
      | true =>
        rw [ha, cond_true] at h
        cases hp : part? cs off i.size with
        | none => simp [hp] at h
        | some l =>
          simp only [hp, Option.some.injEq] at h
          subst h
          obtain ⟨h1, h2, h3⟩ := part_ok S hc hp
          have hl := run_loadCells_list (P := PP) w ⟨E.blk id, off, none⟩ (l.map (conc E)) h3
          simp only [List.length_map, h1] at hl
          simp [Instr.loadAt, Instr.sureAddr, conc, cAddr, loadVar, run_isAgg hu, ha, run_sizeOf hi, hl, concA_mk]
      | false =>
        rw [ha, cond_false, nth_eq] at h
        have := (hall off v h).2
        simp [Instr.loadAt, Instr.sureAddr, conc, cAddr, loadVar, run_isAgg hu, ha, load, Sem.run, this]
    · cases h
  · cases h
end
end Go.Proofs.YtgjabfpkbcdkcaaGreatDoor
