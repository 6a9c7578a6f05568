/- The evaluator's new blocks are the world's. -/
import Derived.Test.YtgjabfpkbcdkcaaGreatDoorEvB
namespace Go.Proofs.YtgjabfpkbcdkcaaGreatDoor
set_option linter.unusedVariables false
set_option linter.unusedSimpArgs false
/-- what an operation's operands are, in the model's frame -/
def Opd (E : En) (F : Tr Value) (ρ : Operand → Value) (o : Op) : Prop := ∀ x ∈ opsL o, ρ x = conc E (opv F x) ∧ good E (opv F x)
theorem foldl_splice (off : Nat) : ∀ (l : List Value) (k : Nat) (cs : Array Value), off + k + l.length ≤ cs.size →
    ((l.zipIdx k).foldl (fun (cs : Array Value) (p : Value × Nat) => cs.setIfInBounds (off + p.2) p.1) cs).toList = cs.toList.take (off + k) ++ (l ++ cs.toList.drop (off + k + l.length)) := by
  intro l
  induction l with
  | nil => intro k cs h; simp
  | cons v l ih =>
    intro k cs h
    simp only [List.length_cons] at h
    rw [List.zipIdx_cons, List.foldl_cons, ih (k + 1) _ (by simp; omega)]
    have hlt : off + k < cs.toList.length := by simp; omega
    rw [Array.toList_setIfInBounds, List.set_eq_take_append_cons_drop, if_pos hlt]
    have e1 : (cs.toList.take (off + k)).length = off + k := by simp; omega
    have t1 : (cs.toList.take (off + k) ++ v :: cs.toList.drop (off + k + 1)).take (off + (k + 1)) = cs.toList.take (off + k) ++ [v] := by
      rw [List.take_append, e1, show off + (k + 1) - (off + k) = 1 by omega, List.take_of_length_le (by rw [e1]; omega)]
      rfl
    have t2 : (cs.toList.take (off + k) ++ v :: cs.toList.drop (off + k + 1)).drop (off + (k + 1) + l.length) = cs.toList.drop (off + k + (l.length + 1)) := by
      rw [List.drop_append, e1, List.drop_eq_nil_of_le (by rw [e1]; omega), show off + (k + 1) + l.length - (off + k) = l.length + 1 by omega, List.drop_succ_cons, List.drop_drop, List.nil_append]
      congr 1
      omega
    rw [t1, t2]
    simp
theorem fill_one (off : Nat) (v : Value) (cs : Array Value) (h : off + v.cells.size ≤ cs.size) :
    (v.cells.zipIdx.foldl (fun (cs : Array Value) (p : Value × Nat) => cs.setIfInBounds (off + p.2) p.1) cs).toList = cs.toList.take off ++ (v.cells.toList ++ cs.toList.drop (off + v.cells.toList.length)) := by
  rw [← Array.foldl_toList, Array.toList_zipIdx, foldl_splice off _ 0 cs (by simpa using h)]
  simp
theorem fillL_nil {F : Tr Value} {place : Nat → Option (Nat × Nat)} (cs : List Value) : fillL F place [] cs = some cs := rfl
theorem fillL_cons {F : Tr Value} {place : Nat → Option (Nat × Nat)} (p : Nat × Operand) (ps : List (Nat × Operand)) (cs : List Value) : fillL F place (p :: ps) cs =
    (match place p.1 with
    | none => none
    | some (off, size) => cond (Nat.beq (ln (cellsL (opv F p.2))) size) (match put? cs off (cellsL (opv F p.2)) with | some cs' => fillL F place ps cs' | none => none) none) := by
  show (match place p.1 with
    | none => none
    | some (off, size) => sh (opv F p.2) fun v => cond (Nat.beq (ln (cellsL v)) size) (match put? cs off (cellsL v) with | some cs' => fillL F place ps cs' | none => none) none) = _
  simp only [sh_eq]
theorem fill_ok {E : En} {F : Tr Value} {ρ : Operand → Value} {place : Nat → Option (Nat × Nat)} : ∀ (ps : List (Nat × Operand)) (cs l : List Value), fillL F place ps cs = some l →
    (∀ p ∈ ps, ρ p.2 = conc E (opv F p.2) ∧ good E (opv F p.2)) → (∀ v ∈ cs, good E v) → Instr.fill place ⟨cs.map (conc E)⟩ (ps.map fun p => (p.1, ρ p.2)) = some ⟨l.map (conc E)⟩ ∧ (∀ v ∈ l, good E v) ∧ l.length = cs.length := by
  intro ps
  induction ps with
  | nil =>
    intro cs l h _ hg
    rw [fillL_nil, Option.some.injEq] at h
    subst h
    exact ⟨rfl, hg, rfl⟩
  | cons p ps ih =>
    intro cs l h hρ hg
    rw [fillL_cons] at h
    obtain ⟨h1, h2⟩ := hρ p (by simp)
    cases hp : place p.1 with
    | none => rw [hp] at h; cases h
    | some y =>
      obtain ⟨off, size⟩ := y
      simp only [hp] at h
      cases hb : Nat.beq (ln (cellsL (opv F p.2))) size with
      | false => rw [hb] at h; cases h
      | true =>
        rw [hb, cond_true] at h
        have hb := Nat.eq_of_beq_eq_true hb
        rw [ln_eq, cellsL_eq] at hb
        cases hput : put? cs off (cellsL (opv F p.2)) with
        | none => simp [hput] at h
        | some cs' =>
          simp only [hput] at h
          rw [cellsL_eq] at hput
          obtain ⟨hl, hcs⟩ := put?_some hput
          have hlen : cs'.length = cs.length := by rw [hcs]; simp at hl ⊢; omega
          have hg' : ∀ v ∈ cs', good E v := fun v hv => by
            rw [hcs] at hv
            rcases List.mem_append.1 hv with hv | hv
            · exact hg v (List.mem_of_mem_take hv)
            · rcases List.mem_append.1 hv with hv | hv
              · exact good_cells h2 v hv
              · exact hg v (List.mem_of_mem_drop hv)
          obtain ⟨r1, r2, r3⟩ := ih cs' l h (fun q hq => hρ q (by simp [hq])) hg'
          refine ⟨?_, r2, by rw [r3, hlen]⟩
          have hc := conc_cells E (opv F p.2)
          have hsz : (conc E (opv F p.2)).cells.size = size := by rw [← Array.length_toList, hc]; simpa using hb
          simp only [List.map_cons, Instr.fill, hp, h1]
          rw [if_neg (by simp [hsz]; simp at hb hl; omega)]
          have hone := fill_one off (conc E (opv F p.2)) ⟨cs.map (conc E)⟩ (by simp [hsz]; simp at hb hl; omega)
          have harr : ((conc E (opv F p.2)).cells.zipIdx.foldl (fun (cs : Array Value) (p : Value × Nat) => cs.setIfInBounds (off + p.2) p.1) ⟨cs.map (conc E)⟩) = ⟨cs'.map (conc E)⟩ := by
            apply Array.ext'
            rw [hone, hcs, hc]
            simp [List.map_take, List.map_drop]
          rw [harr]
          exact r1
section
variable {w0 : Base} {w w' : World} {E E' : En} {H H' : Hp} {t e : TypeId} {d : TypeDesc} {i : TypeInfo}
theorem zerosE_ok {n : Nat} {l : List Value} (h : zerosE i n = some l) : ∃ z, i.zero = some z ∧ afree z = true ∧ z.cells.toList.length = i.size ∧ l = (List.replicate n z.cells.toList).flatten ∧ n ≤ 1048576 := by
  unfold zerosE at h
  cases hz : i.zero with
  | none => rw [hz] at h; cases h
  | some z =>
    rw [hz] at h
    simp only at h
    cases hb : (afree z && Nat.ble n 1048576 && Nat.beq (ln (cellsL z)) i.size) with
    | false => rw [hb] at h; cases h
    | true =>
      rw [hb, cond_true, fL_eq, Option.some.injEq] at h
      simp only [Bool.and_eq_true] at hb
      obtain ⟨⟨h1, h2⟩, h3⟩ := hb
      have h3 := Nat.eq_of_beq_eq_true h3
      rw [ln_eq, cellsL_eq] at h3
      rw [reps_eq, cellsL_eq] at h
      exact ⟨z, rfl, h1, h3, h.symm, Nat.le_of_ble_eq_true h2⟩
theorem zeros_conc {z : Value} (hz : afree z = true) (n : Nat) : ((List.replicate n z.cells.toList).flatten).map (conc E) = (List.replicate n z.cells.toList).flatten ∧ ∀ x ∈ (List.replicate n z.cells.toList).flatten, good E x := by
  have := reps_conc (E := E) hz n
  rwa [reps_eq] at this
/-- a new row of cells -/
theorem CRel.row (E : En) (w : World) (ty : TypeId) (cs : List Value) (hg : ∀ v ∈ cs, good E v) {c : Nat} : CRel PP E (w.alloc (.cells ⟨cs.map (conc E)⟩ ty)) w.heap.size c (.cells ty cs false false) :=
  ⟨⟨cs.map (conc E)⟩, (0, 0), heap_alloc_new w _, hg, ⟨[], by simp, fun _ => rfl⟩, (fun h => by cases h), fun _ j hj => by
    have h := heap_alloc_new w (.cells ⟨cs.map (conc E)⟩ ty)
    unfold World.frozen?
    simp only [h]
    simp⟩
theorem made_arr {z : Array Value} {n k : Nat} (h : z.size = k) : madeCells z (n * k) = ⟨(List.replicate n z.toList).flatten⟩ := by
  subst h
  apply Array.ext'
  exact made_eq z n
theorem run_buildSlice {zv : Value} {len : Nat} {parts : Array (Nat × Value)} {l : List Value} (hu : PP.underlying t = some (.slice e)) (hi : PP.info? e = some i) (hz : i.zero = some zv) (hs : zv.cells.size = i.size) (hc : len * i.size ≤ 16777216)
    (hf : Instr.fill (fun k => some (k * i.size, i.size)) ⟨(List.replicate len zv.cells.toList).flatten⟩ parts.toList = some ⟨l⟩) (w : World) :
    (Instr.buildSlice t len parts).run PP w = .ok (.slice (some ⟨w.heap.size, 0, none⟩) len len) (w.alloc (.cells ⟨l⟩ e)) := by
  have h24 : ¬ (16777216 < len * i.size) := by omega
  have hm := made_arr (n := len) hs
  unfold madeCells at hm
  by_cases h0 : len * i.size = 0
  · have he : (⟨(List.replicate len zv.cells.toList).flatten⟩ : Array Value) = #[] := by
      rw [← hm, h0]; simp [Array.range_zero']
    rw [he] at hf
    simp [Instr.buildSlice, run_underlying hu, run_sizeOf hi, h0, hf, newRow, Array.range_zero']
  · rw [← hm] at hf
    simp [Instr.buildSlice, run_underlying hu, run_sizeOf hi, h0, h24, run_zeroValue hi hz, hf, newRow]
/-- a new block: what the operation does in any world -/
theorem new_ok {F : Tr Value} {ρ : Operand → Value} {dst : Option Tmp} {op : Op} {ty : TypeId} {pos : String} {af : Array Edge} {gd : Option (Nat × Bool)} {ob : AO} {mk : Nat → Value} (h : evalNew F op = some (ob, mk)) (hρ : Opd E F ρ op) (id : Nat) (hid : E id = none) (w : World) :
    ∃ co c, (execOp ρ ⟨dst, op, ty, pos, af, gd⟩).run PP w = .ok (.value (conc (E.add id (w.heap.size, c)) (mk id))) (w.alloc co) ∧ CRel PP (E.add id (w.heap.size, c)) (w.alloc co) w.heap.size c ob ∧ (∀ q, ob ≠ .virt q) ∧ good (E.add id (w.heap.size, c)) (mk id) := by
  have hself : ∀ c, (E.add id (w.heap.size, c)) id = some (w.heap.size, c) := fun c => if_pos rfl
  have hblk : ∀ c, (E.add id (w.heap.size, c)).blk id = w.heap.size := fun c => by simp [En.blk, hself]
  have hle : ∀ c, E.le (E.add id (w.heap.size, c)) := fun c => En.add_le hid
  have hbox : ∀ (e : TypeId) (x : Value), boxE e x = some (ob, mk) → good E x →
      ∃ c, CRel PP (E.add id (w.heap.size, c)) (w.alloc (.cells (conc E x).cells e)) w.heap.size c ob ∧ (∀ q, ob ≠ .virt q) ∧ good (E.add id (w.heap.size, c)) (mk id) ∧ conc (E.add id (w.heap.size, c)) (mk id) = .pointer (some ⟨w.heap.size, 0, none⟩) := by
    intro e x hx hg
    unfold boxE at hx
    rw [sh_eq, Option.some.injEq, Prod.mk.injEq] at hx
    obtain ⟨rfl, rfl⟩ := hx
    have hc := conc_cells E x
    refine ⟨0, ?_, by intro q; simp, by simp [good, hself], by simp [conc, cAddr, hblk]⟩
    have := CRel.row (E.add id (w.heap.size, 0)) w e (cellsL x) (fun v hv => (conc_le (hle 0) v (good_cells hg v (by rwa [cellsL_eq] at hv))).2) (c := 0)
    have harr : (conc E x).cells = ⟨(cellsL x).map (conc (E.add id (w.heap.size, 0)))⟩ := by
      apply Array.ext'
      rw [hc, cellsL_eq, map_conc_le (hle 0) (good_cells hg)]
    rw [harr]
    exact this
  cases op <;> try (simp [evalNew] at h; done)
  case alloc e =>
    simp only [evalNew] at h
    cases hz : zeroE e with
    | none => rw [hz] at h; cases h
    | some z =>
      rw [hz] at h
      obtain ⟨i, hi, hzi, ha⟩ := zeroE_ok hz
      obtain ⟨c1, c2⟩ := afree_ok E ha
      obtain ⟨c, r1, r2, r3, r4⟩ := hbox e z h c2
      refine ⟨_, c, ?_, r1, r2, r3⟩
      rw [r4]
      simp [execOp, Instr.alloc, run_zeroValue hi hzi, newVar, newRow, c1]
  case box e x =>
    simp only [evalNew] at h
    obtain ⟨h1, h2⟩ := hρ x (by simp [opsL])
    obtain ⟨c, r1, r2, r3, r4⟩ := hbox e _ h h2
    refine ⟨_, c, ?_, r1, r2, r3⟩
    rw [r4]
    simp [execOp, Instr.box, newVar, newRow, h1]
  case buildSlice t len parts =>
    simp only [evalNew, buildSliceE] at h
    split at h
    · rename_i e _ ht
      cases he : tabE e with
      | none => rw [he] at h; cases h
      | some y =>
        obtain ⟨d, i⟩ := y
        simp only [he] at h
        cases hz : zerosE i len with
        | none => rw [hz] at h; cases h
        | some z =>
          simp only [hz] at h
          cases hb : Nat.ble (Nat.mul len i.size) 16777216 with
          | false => rw [hb] at h; cases h
          | true =>
            rw [hb, cond_true] at h
            cases hf : fillL F (fun k => some (k * i.size, i.size)) parts.toList z with
            | none => rw [hf] at h; cases h
            | some l =>
              simp only [hf, Option.some.injEq, Prod.mk.injEq] at h
              obtain ⟨rfl, rfl⟩ := h
              obtain ⟨zv, hzi, ha, hsz, hzl, hn⟩ := zerosE_ok hz
              obtain ⟨z1, z2⟩ := zeros_conc (E := E) ha len
              obtain ⟨hu, _⟩ := tab_ok ht
              obtain ⟨_, hi⟩ := tab_ok he
              obtain ⟨f1, f2, f3⟩ := fill_ok (E := E) (ρ := ρ) parts.toList z l hf (fun p hp => hρ p.2 (by simp only [opsL, mp_eq]; exact List.mem_map.2 ⟨p, hp, rfl⟩)) (fun v hv => z2 v (by rwa [hzl] at hv))
              have hcell : len * i.size ≤ 16777216 := Nat.le_of_ble_eq_true hb
              refine ⟨.cells ⟨l.map (conc (E.add id (w.heap.size, 0)))⟩ e, 0, ?_, CRel.row _ w e l fun v hv => (conc_le (hle 0) v (f2 v hv)).2, by intro q; simp, ?_⟩
              · have hm : l.map (conc (E.add id (w.heap.size, 0))) = l.map (conc E) := map_conc_le (hle 0) f2
                rw [hm]
                have hzm : z.map (conc E) = z := by rw [hzl]; exact z1
                rw [hzm, hzl] at f1
                have hr := run_buildSlice (parts := parts.map fun x => (x.1, ρ x.2)) hu hi hzi (by simpa using hsz) hcell (by simpa using f1) w
                simp only [execOp]
                have hlen : ¬ (HALF ≤ len) := by unfold HALF; omega
                simp [hr, conc, cAddr, hblk, cCap, hlen]
              · simp only [good, hself]
                refine ⟨rfl, fun hc => ?_, fun _ => Nat.le_refl _⟩
                have : HALF ≤ len := hc
                unfold HALF at this
                omega
    · cases h
  case makeMap t r =>
    simp only [evalNew, makeMapE] at h
    have hfin : ob = .map [] → mk = (fun id => .map (some id)) → CRel PP (E.add id (w.heap.size, 0)) (w.alloc (.map #[] 0)) w.heap.size 0 ob ∧ (∀ q, ob ≠ .virt q) ∧ good (E.add id (w.heap.size, 0)) (mk id) ∧ conc (E.add id (w.heap.size, 0)) (mk id) = .map (some w.heap.size) := by
      rintro rfl rfl
      exact ⟨⟨#[], 0, heap_alloc_new w _, rfl, by simp⟩, by intro q; simp, by simp [good, hself], by simp [conc, hblk]⟩
    cases r with
    | none =>
      simp only [Option.map_none, Option.some.injEq, Prod.mk.injEq] at h
      obtain ⟨r1, r2, r3, r4⟩ := hfin h.1.symm h.2.symm
      refine ⟨_, 0, ?_, r1, r2, r3⟩
      rw [r4]
      simp [execOp, Instr.makeMap]
    | some x =>
      simp only [Option.map_some] at h
      obtain ⟨h1, h2⟩ := hρ x (by simp [opsL])
      split at h
      · rename_i ht hx
        simp only [Option.some.injEq, Prod.mk.injEq] at h
        obtain ⟨r1, r2, r3, r4⟩ := hfin h.1.symm h.2.symm
        refine ⟨_, 0, ?_, r1, r2, r3⟩
        rw [r4]
        obtain ⟨hu, _⟩ := tab_ok ht
        rw [hx] at h1
        simp only [conc] at h1
        simp [execOp, Instr.makeMap, h1, run_underlying hu, asInt, asIntOf]
      · cases h
  case makeChan t c =>
    simp only [evalNew, makeChanE] at h
    obtain ⟨h1, h2⟩ := hρ c (by simp [opsL])
    split at h
    · rename_i e _ n ht hn
      cases he : tabE e with
      | none => rw [he] at h; cases h
      | some y =>
        obtain ⟨d, i⟩ := y
        simp only [he] at h
        cases hb : (Nat.ble n 65536 && Nat.ble i.bytes 65536) with
        | false => rw [hb] at h; cases h
        | true =>
          rw [hb, cond_true, Option.some.injEq, Prod.mk.injEq] at h
          obtain ⟨rfl, rfl⟩ := h
          simp only [Bool.and_eq_true] at hb
          have b1 := Nat.le_of_ble_eq_true hb.1
          have b2 := Nat.le_of_ble_eq_true hb.2
          obtain ⟨hu, _⟩ := tab_ok ht
          obtain ⟨_, hi⟩ := tab_ok he
          have hcc : ∃ k, ρ c = .int k (n : Int) := by
            rw [h1]
            unfold natOf at hn
            split at hn
            · rename_i k m hv
              simp only [Option.some.injEq] at hn
              subst hn
              exact ⟨k, by rw [hv]; rfl⟩
            · cases hn
          obtain ⟨k, hk⟩ := hcc
          refine ⟨.chan n #[] false 0 0 false, 0, ?_, ⟨heap_alloc_new w _, by simp⟩, by intro q; simp, by simp [good, hself]⟩
          have hmul : i.bytes * n ≤ 65536 * 65536 := Nat.mul_le_mul b2 b1
          have n1 : ¬ ((n : Int) < 0) := by omega
          have n2 : ¬ (9223372036854775807 < (n : Int)) := by omega
          have n3 : ¬ (281474976710656 - 112 < (i.bytes : Int) * (n : Int)) := by
            have : ((i.bytes * n : Nat) : Int) ≤ 4294967296 := by omega
            rw [Int.natCast_mul] at this
            omega
          simp [execOp, hk, Instr.makeChan, asInt, asIntOf, run_underlying hu, typeInfo, hi, n1, n2, n3, conc, hblk]
          intro hbad
          omega
    · cases h
  case makeSlice t l c =>
    simp only [evalNew, makeSliceE] at h
    obtain ⟨h1, h2⟩ := hρ l (by simp [opsL])
    obtain ⟨h3, h4⟩ := hρ c (by simp [opsL])
    have hint : ∀ (x : Operand) (n : Nat), ρ x = conc E (opv F x) → natOf (opv F x) = some n → ∃ k, ρ x = .int k (n : Int) := fun x n hx hn => by
      rw [hx]
      unfold natOf at hn
      split at hn
      · rename_i k m hv
        simp only [Option.some.injEq] at hn
        subst hn
        exact ⟨k, by rw [hv]; rfl⟩
      · cases hn
    split at h
    · rename_i e _ ln cn ht hln hcn
      cases he : tabE e with
      | none => rw [he] at h; cases h
      | some y =>
        obtain ⟨d, i⟩ := y
        simp only [he] at h
        cases hb : (Nat.ble ln cn && Nat.ble i.bytes 65536) with
        | false => rw [hb] at h; cases h
        | true =>
          rw [hb, cond_true] at h
          cases hz : zerosE i cn with
          | none => rw [hz] at h; cases h
          | some z =>
            simp only [hz, Option.some.injEq, Prod.mk.injEq] at h
            obtain ⟨rfl, rfl⟩ := h
            simp only [Bool.and_eq_true] at hb
            have b1 := Nat.le_of_ble_eq_true hb.1
            have b2 := Nat.le_of_ble_eq_true hb.2
            obtain ⟨zv, hzi, ha, hsz, hzl, hn⟩ := zerosE_ok hz
            obtain ⟨z1, z2⟩ := zeros_conc (E := E.add id (w.heap.size, 0)) ha cn
            obtain ⟨hu, _⟩ := tab_ok ht
            obtain ⟨_, hi⟩ := tab_ok he
            obtain ⟨kl, hkl⟩ := hint l ln h1 hln
            obtain ⟨kc, hkc⟩ := hint c cn h3 hcn
            have hmul : i.bytes * cn ≤ 65536 * 1048576 := Nat.mul_le_mul b2 hn
            have hm := run_make (P := PP) w t e i zv hu hi hzi kl kc ln cn (by omega) (by omega) (by rw [← Int.natCast_mul]; omega) (by omega)
            simp only [Int.toNat_natCast] at hm
            have harr : madeCells zv.cells (cn * i.size) = ⟨z.map (conc (E.add id (w.heap.size, 0)))⟩ := by
              rw [made_arr (by simpa using hsz), hzl, z1]
            rw [harr] at hm
            refine ⟨_, 0, ?_, CRel.row _ w e z fun v hv => z2 v (by rwa [hzl] at hv), by intro q; simp, ?_⟩
            · have hlen : ¬ (HALF ≤ cn) := by unfold HALF; omega
              simp [execOp, hkl, hkc, hm, conc, cAddr, hblk, cCap, hlen]
            · simp only [good, hself]
              refine ⟨rfl, fun hc => ?_, fun _ => b1⟩
              have : HALF ≤ cn := hc
              unfold HALF at this
              omega
    · cases h
end
end Go.Proofs.YtgjabfpkbcdkcaaGreatDoor
