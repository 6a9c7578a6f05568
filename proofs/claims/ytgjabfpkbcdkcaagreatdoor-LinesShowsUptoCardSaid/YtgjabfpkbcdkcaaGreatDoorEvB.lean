/- The evaluator's writes and new blocks. -/
import Derived.Test.YtgjabfpkbcdkcaaGreatDoorEvA
import Derived.Laws.MakeOwn
import Derived.Lib.AppendStr
namespace Go.Proofs.YtgjabfpkbcdkcaaGreatDoor
set_option linter.unusedVariables false
set_option linter.unusedSimpArgs false
theorem one1_cell (v : Value) : v.oneCell' = one1 v := by cases v <;> rfl
theorem getElem!_nth (l : List Value) (k : Nat) (h : k < l.length) : l[k]! = l[k] := by simp [h]
/-- a row of zeros -/
theorem made_list (l : List Value) (n : Nat) : (List.range (n * l.length)).map (fun j => l[j % l.length]!) = (List.replicate n l).flatten := by
  induction n with
  | zero => simp
  | succ n ih =>
    rw [Nat.succ_mul, Nat.add_comm, List.range_add, List.map_append, List.replicate_succ, List.flatten_cons, ← ih, List.map_map]
    congr 1
    · apply List.ext_getElem
      · simp
      · intro k h1 h2
        simp only [List.getElem_map, List.getElem_range]
        rw [Nat.mod_eq_of_lt h2, getElem!_nth l k h2]
    · apply List.map_congr_left
      intro k hk
      simp
theorem made_eq (z : Array Value) (n : Nat) : (madeCells z (n * z.size)).toList = (List.replicate n z.toList).flatten := by
  obtain ⟨l⟩ := z
  rw [← made_list]
  simp [madeCells]
theorem zeroCells_eq (z : Array Value) (n : Nat) : (Builtin.zeroCells z n).toList = (List.replicate n z.toList).flatten := made_eq z n
theorem reps_conc {E : En} {z : Value} (h : afree z = true) (n : Nat) : (reps n z.cells.toList).map (conc E) = reps n z.cells.toList ∧ ∀ x ∈ reps n z.cells.toList, good E x := by
  obtain ⟨h1, h2⟩ := afree_cells E h
  have hm : ∀ x ∈ reps n z.cells.toList, x ∈ z.cells.toList := fun x hx => by
    rw [reps_eq] at hx
    obtain ⟨l, hl, hx⟩ := List.mem_flatten.1 hx
    rw [List.eq_of_mem_replicate hl] at hx
    exact hx
  refine ⟨?_, fun x hx => h2 x (hm x hx)⟩
  rw [reps_eq, List.map_flatten, List.map_replicate, h1]
section
variable {w0 : Base} {w w' : World} {E E' : En} {H H' : Hp} {t e : TypeId} {d : TypeDesc} {i : TypeInfo}
/-- cells are stored, one by one, whatever is frozen elsewhere -/
theorem run_storeCells_any (g o : Nat) (t : TypeId) (fr : Nat × Nat) : ∀ (vs : List Value) (i : Nat) (cur : Array Value) (w : World), w.heap[g]? = some (.cells cur t fr) → o + i + vs.length ≤ cur.size →
    (∀ j, o + i ≤ j → j < o + i + vs.length → w.frozen? ⟨g, j, none⟩ = false) → (∀ v ∈ vs, v.oneCell' = true) →
    (storeCells ⟨g, o, none⟩ vs i).run PP w = .ok () (w.setRow g (cur.toList.take (o + i) ++ vs ++ cur.toList.drop (o + i + vs.length)).toArray)
  | [], i, cur, w, hg, _, _, _ => by
    simp only [storeCells, List.append_nil, List.length_nil, Nat.add_zero, List.take_append_drop, Array.toArray_toList]
    rw [setRow_self w g cur t fr hg]
    rfl
  | v :: rest, i, cur, w, hg, hl, hfz, h1 => by
    have hi : o + i < cur.size := by simp at hl; omega
    have hadd : (⟨g, o, none⟩ : Addr).add i = ⟨g, o + i, none⟩ := addr_add g o i
    have hcell : w.cell? ⟨g, o + i, none⟩ = some cur[o + i] := by simp [World.cell?, hg, hi]
    have hfro : w.frozen? ⟨g, o + i, none⟩ = false := hfz _ (Nat.le_refl _) (by simp)
    have hst : (store ((⟨g, o, none⟩ : Addr).add i) v).run PP w = .ok () (w.setRow g (cur.setIfInBounds (o + i) v)) := by
      rw [hadd, run_store PP w _ v _ (h1 v (by simp)), hcell]
      simp [hfro, setCell_eq_setRow w g (o + i) cur t fr v hg]
    have hg' := setRow_heap w g cur (cur.setIfInBounds (o + i) v) t fr hg
    have ih := run_storeCells_any g o t fr rest (i + 1) (cur.setIfInBounds (o + i) v) (w.setRow g (cur.setIfInBounds (o + i) v)) hg' (by simp at hl ⊢; omega)
      (fun j h2 h3 => by
        have := hfz j (by omega) (by simp; omega)
        unfold World.frozen? at *
        simp only [hg, hg'] at *
        exact this)
      (fun x hx => h1 x (by simp [hx]))
    simp only [storeCells, Sem.run_bind, hst, Result.andThen_ok, ih, setRow_setRow]
    congr 3
    have e := list_seg_step cur.toList (o + i) v rest (by simp at hl ⊢; omega)
    simpa [Array.toList_setIfInBounds, Nat.add_assoc] using e
/-- the evaluator's write is the world's -/
theorem write_ok (S : Sim PP w0 E H w) {id off : Nat} {vs : List Value} (h : writeE H id off vs = some H') (hg : ∀ v ∈ vs, good E v) :
    (E id).isSome = true ∧ ∃ w', (storeCells ⟨E.blk id, off, none⟩ (vs.map (conc E))).run PP w = .ok () w' ∧ Sim PP w0 E H' w' := by
  unfold writeE at h
  cases hget : H.t.get id with
  | none => simp [hget] at h
  | some o =>
    cases o with
    | cells ty cs opn ro =>
      cases ro with
      | true => simp [hget] at h
      | false =>
        simp only [hget] at h
        cases ha : all1 vs with
        | false => rw [ha] at h; cases h
        | true =>
          rw [ha, cond_true] at h
          cases hp : put? cs off vs with
          | none => simp [hp] at h
          | some cs' =>
            simp only [hp, Option.some.injEq] at h
            subst h
            obtain ⟨b, c, hE, hb, arr, fr, h1, h2, ⟨rest, h3, h3'⟩, h4, h5⟩ := S.at_ hget (by intro q; simp)
            have hbk : E.blk id = b := by simp [En.blk, hE]
            obtain ⟨hl, hcs'⟩ := put?_some hp
            have hsz : arr.size = cs.length + rest.length := by have := congrArg List.length h3; simpa using this
            have hone : ∀ v ∈ vs.map (conc E), v.oneCell' = true := fun v hv => by
              obtain ⟨u, hu, rfl⟩ := List.mem_map.1 hv
              rw [one1_cell, conc_one1]
              exact allB_iff.1 ha u hu
            have hrun := run_storeCells_any b off ty fr (vs.map (conc E)) 0 arr w h1 (by simp; omega) (fun j _ hj => h5 rfl j (by simp at hj; omega)) hone
            refine ⟨by rw [hE]; rfl, _, by rw [hbk]; exact hrun, ?_⟩
            have hheap := setRow_heap w b arr (arr.toList.take (off + 0) ++ vs.map (conc E) ++ arr.toList.drop (off + 0 + (vs.map (conc E)).length)).toArray ty fr h1
            have hlist : arr.toList.take (off + 0) ++ vs.map (conc E) ++ arr.toList.drop (off + 0 + (vs.map (conc E)).length) = cs'.map (conc E) ++ rest := by
              rw [h3, hcs', Nat.add_zero, List.length_map]
              rw [List.take_append_of_le_length (by simp; omega), List.drop_append_of_le_length (by simp; omega)]
              simp [List.map_take, List.map_drop, List.append_assoc]
            have hlen : cs'.length = cs.length := by
              rw [hcs']; simp; omega
            rw [hlist] at hheap hrun ⊢
            refine S.put hget hE hb (by simp) (fun k hk => setRow_other w b k _ hk) rfl rfl rfl (by intro q; simp) ?_
            refine ⟨_, fr, hheap, fun v hv => ?_, ⟨rest, by simp, h3'⟩, fun ho => ?_, fun _ j hj => ?_⟩
            · rw [hcs'] at hv
              rcases List.mem_append.1 hv with hv | hv
              · exact h2 v (List.mem_of_mem_take hv)
              · rcases List.mem_append.1 hv with hv | hv
                · exact hg v hv
                · exact h2 v (List.mem_of_mem_drop hv)
            · obtain ⟨i, hi, hs⟩ := h4 ho
              exact ⟨i, hi, by simp [hlen]; omega⟩
            · have := h5 rfl j (by simp [hlen] at hj; omega)
              unfold World.frozen? at *
              simp only [h1, hheap] at *
              exact this
    | _ => simp [hget] at h
theorem store_ok (S : Sim PP w0 E H w) {p x : Value} (h : storeE t p x H = some H') (hg : good E x) :
    ∃ w', (Instr.storeAt t (conc E p) (conc E x)).run PP w = .ok () w' ∧ Sim PP w0 E H' w' := by
  unfold storeE at h
  split at h
  · rename_i id off
    cases ht : tabE t with
    | none => simp [ht] at h
    | some y =>
      obtain ⟨d, i⟩ := y
      simp only [ht, sh_eq, cellsL_eq] at h
      cases hn : Nat.beq (ln x.cells.toList) i.size with
      | false => rw [hn] at h; cases h
      | true =>
        rw [hn, cond_true] at h
        have hn := Nat.eq_of_beq_eq_true hn
        rw [ln_eq] at hn
        obtain ⟨hu, hi⟩ := tab_ok ht
        obtain ⟨_, w', hr, hS⟩ := write_ok S h (good_cells hg)
        refine ⟨w', ?_, hS⟩
        have hsz : (conc E x).cells.size = i.size := by
          rw [← Array.length_toList, conc_cells]; simpa using hn
        simp [Instr.storeAt, Instr.sureAddr, conc, cAddr, storeVar, run_sizeOf hi, hsz, conc_cells, hr]
  · cases h
/-- the first n elements of a row, or of a string -/
theorem first_ok (S : Sim PP w0 E H w) {sz n : Nat} {x : Value} {l : List Value} (h : firstOf H sz n x = some l) {w1 : World} (hw : w1.heap = w.heap) :
    (Builtin.firstCells sz n (conc E x)).run PP w1 = .ok ⟨l.map (conc E)⟩ w1 ∧ (∀ v ∈ l, good E v) ∧ (∀ a m c, x = .slice a m c → l.length = n * sz) := by
  have S1 : Sim PP w0 E H { w1 with os := w.os, tape := w.tape, output := w.output } := S.same hw rfl rfl rfl
  unfold firstOf at h
  split at h
  · rename_i id off m c
    cases hc : cellsOf H id with
    | none => simp [hc] at h
    | some cs =>
      simp only [hc] at h
      obtain ⟨h1, h2, h3⟩ := part_ok S hc h
      refine ⟨?_, h2, fun _ _ _ _ => h1⟩
      have h4 : ∀ (j : Nat) v, (l.map (conc E))[j]? = some v → w1.cell? ((⟨E.blk id, off, none⟩ : Addr).add j) = some v := fun j v hv => by
        have := h3 j v hv
        unfold World.cell? at *
        rw [hw]
        exact this
      exact run_firstCells_some (P := PP) w1 sz n _ _ _ (l.map (conc E)) (by simpa using h1) h4
  · cases hn : Nat.beq n 0 with
    | false => rw [hn] at h; cases h
    | true =>
      rw [hn, cond_true, Option.some.injEq] at h
      subst h
      have := Nat.eq_of_beq_eq_true hn
      subst this
      exact ⟨by simp [conc, Builtin.firstCells], by simp, fun _ _ _ _ => by simp⟩
  · rename_i s
    rw [fL_eq, Option.some.injEq, mp_eq, tk_eq] at h
    subst h
    refine ⟨?_, ?_, fun _ _ _ e => by cases e⟩
    · simp only [conc, Builtin.firstCells]
      have : (s.extract 0 n).data.toList = s.data.toList.take n := by
        simp [ByteArray.extract, ByteArray.copySlice]
      have h2 : Array.map (fun b : UInt8 => Value.int IntKind.u8 ↑b.toNat) (s.extract 0 n).data = ⟨(s.data.toList.take n).map (fun b => Value.int IntKind.u8 ↑b.toNat)⟩ := by
        apply Array.ext'
        rw [Array.toList_map, this]
      rw [h2, List.map_map]
      rfl
    · intro v hv
      obtain ⟨b, _, rfl⟩ := List.mem_map.1 hv
      trivial
  · cases h
end
end Go.Proofs.YtgjabfpkbcdkcaaGreatDoor
