/- One operation of the evaluator's is the model's. -/
import Derived.Test.YtgjabfpkbcdkcaaGreatDoorEvY
namespace Go.Proofs.YtgjabfpkbcdkcaaGreatDoor
set_option linter.unusedVariables false
set_option linter.unusedSimpArgs false
section
variable {w0 : Base} {w w' : World} {E E' : En} {H H' : Hp} {t e : TypeId} {d : TypeDesc} {i : TypeInfo}
theorem conc_natOf {x : Value} {n : Nat} (h : natOf x = some n) : ∃ k, x = .int k (n : Int) ∧ conc E x = .int k (n : Int) := by
  unfold natOf at h
  split at h
  · rename_i k m
    simp only [Option.some.injEq] at h
    subst h
    exact ⟨k, rfl, rfl⟩
  · cases h
theorem iface_ok {x : Value} (hg : good E x) (w : World) : VOk w0 E H w ((Instr.makeInterface t (conc E x)).run PP w) (ifaceE t x) := by
  unfold ifaceE
  split
  · trivial
  · rename_i y hne hy
    obtain ⟨d, i⟩ := y
    obtain ⟨hu, _⟩ := tab_ok hy
    rw [nf_eq]
    refine ⟨?_, hg⟩
    cases d with
    | interface m => exact (hne m i rfl).elim
    | _ => simp [Instr.makeInterface, run_underlying hu, conc]
  · trivial
theorem func_ok {F : Tr Value} {ρ : Operand → Value} {f : Fn} {a b : Array Operand} (h : ∀ x ∈ a.toList ++ b.toList, ρ x = conc E (opv F x) ∧ good E (opv F x)) (w : World) :
    VOk w0 E H w ((Instr.makeFunc f (a.map ρ) (b.map ρ)).run PP w) (funcE F f a.toList b.toList) := by
  unfold funcE
  split
  · rename_i f
    rw [mpV_eq, mpV_eq]
    refine ⟨?_, ?_, ?_⟩
    · have key : ∀ c : Array Operand, (∀ x ∈ c.toList, ρ x = conc E (opv F x)) → c.map ρ = concA E ⟨c.toList.map (opv F)⟩ := fun c hc => by
        rw [concA_mk]
        apply Array.ext'
        simp only [Array.toList_map, List.map_map]
        exact List.map_congr_left fun x hx => hc x hx
      rw [key a fun x hx => (h x (by simp only [List.mem_append]; exact .inl hx)).1, key b fun x hx => (h x (by simp only [List.mem_append]; exact .inr hx)).1]
      rfl
    · refine goodA_iff.2 fun v hv => ?_
      obtain ⟨x, hx, rfl⟩ := List.mem_map.1 hv
      exact (h x (by simp only [List.mem_append]; exact .inl hx)).2
    · refine goodA_iff.2 fun v hv => ?_
      obtain ⟨x, hx, rfl⟩ := List.mem_map.1 hv
      exact (h x (by simp only [List.mem_append]; exact .inr hx)).2
  · trivial
theorem cAddr_add (a : Addr) (k : Nat) : cAddr E (a.add k) = (cAddr E a).add k := by
  unfold Addr.add
  by_cases h : k = 0
  · simp [h]
  · simp [h, cAddr]
theorem fieldAddr_ok {x : Value} {f : Nat} (hg : good E x) (w : World) : VOk w0 E H w ((Instr.fieldAt t (conc E x) f).run PP w) (fieldAddrE t x f) := by
  unfold fieldAddrE
  split
  · rename_i a fs i ht
    split
    · rename_i fd hf
      cases hs : sizeE fd.type with
      | none => trivial
      | some sz =>
        simp only
        cases hb : Nat.ble sz 0 with
        | true => trivial
        | false =>
          rw [cond_false]
          obtain ⟨hu, _⟩ := tab_ok ht
          obtain ⟨j, hj, rfl⟩ := sizeE_ok hs
          rw [nth_eq, Array.getElem?_toList] at hf
          have hz : j.size ≠ 0 := fun h0 => by rw [h0] at hb; cases hb
          refine ⟨?_, ?_⟩
          · simp only [conc, cAddr_add]
            simp [Instr.fieldAt, run_underlying hu, hf, Instr.sureAddr, fieldPlace, run_sizeOf hj, hz]
          · simp only [good, add_block]; exact hg
    · trivial
  · trivial
theorem field_ok {x v : Value} {f : Nat} (hg : good E x) (h : fieldE t x f = some v) (w : World) : (Instr.field t (conc E x) f).run PP w = .ok (conc E v) w ∧ good E v := by
  unfold fieldE at h
  split at h
  · rename_i cs fs i ht
    split at h
    · rename_i fd hf
      cases hd : tabE fd.type with
      | none => rw [hd] at h; cases h
      | some y =>
        obtain ⟨d, j⟩ := y
        simp only [hd] at h
        obtain ⟨hu, _⟩ := tab_ok ht
        rw [nth_eq, Array.getElem?_toList] at hf
        obtain ⟨l⟩ := cs
        obtain ⟨r1, r2⟩ := run_part (w := w) hd (goodA_iff.1 hg) h
        refine ⟨?_, r2⟩
        have hc : conc E (.agg ⟨l⟩) = .agg ⟨l.map (conc E)⟩ := by simp [conc, concA_mk]
        rw [hc]
        simp [Instr.field, run_underlying hu, hf, asAgg, r1]
    · cases h
  · cases h
theorem indexAddr_ok {x ix : Value} (hg : good E x) (w : World) : VOk w0 E H w ((Instr.indexAt t (conc E x) (conc E ix)).run PP w) (indexAddrE t x ix) := by
  unfold indexAddrE
  split
  · rename_i a len c k e i hk ht
    unfold elemE
    cases hb : Nat.blt k len with
    | false => trivial
    | true =>
      rw [cond_true]
      rw [Nat.blt_eq] at hb
      cases hs : sizeE e with
      | none => trivial
      | some sz =>
        obtain ⟨j, hj, rfl⟩ := sizeE_ok hs
        obtain ⟨hu, _⟩ := tab_ok ht
        obtain ⟨q, rfl, hq⟩ := conc_natOf (E := E) hk
        obtain ⟨c', hc, _⟩ := slice_conc hg
        refine ⟨?_, ?_⟩
        · rw [hc, hq]
          simp only [conc, cAddr_add]
          simp [Instr.indexAt, asIntOf, run_underlying hu, hb, run_sizeOf hj]
        · simp only [good, add_block]; exact hg.1
  · rename_i a k len e i hk ht
    unfold elemE
    cases hb : Nat.blt k len with
    | false => trivial
    | true =>
      rw [cond_true]
      rw [Nat.blt_eq] at hb
      cases hs : sizeE e with
      | none => trivial
      | some sz =>
        obtain ⟨j, hj, rfl⟩ := sizeE_ok hs
        obtain ⟨hu, _⟩ := tab_ok ht
        obtain ⟨q, rfl, hq⟩ := conc_natOf (E := E) hk
        refine ⟨?_, ?_⟩
        · rw [hq]
          simp only [conc, cAddr_add]
          simp [Instr.indexAt, asIntOf, run_underlying hu, hb, run_sizeOf hj, Instr.sureAddr]
        · simp only [good, add_block]; exact hg
  · trivial
theorem index_ok {x ix v : Value} (hg : good E x) (h : indexE t x ix = some v) (w : World) : (Instr.index t (conc E x) (conc E ix)).run PP w = .ok (conc E v) w ∧ good E v := by
  unfold indexE at h
  split at h
  · rename_i cs k len e i hk ht
    cases hb : Nat.blt k len with
    | false => rw [hb] at h; cases h
    | true =>
      rw [hb, cond_true] at h
      rw [Nat.blt_eq] at hb
      cases hd : tabE e with
      | none => rw [hd] at h; cases h
      | some y =>
        obtain ⟨d, j⟩ := y
        simp only [hd] at h
        obtain ⟨hu, _⟩ := tab_ok ht
        obtain ⟨_, hj⟩ := tab_ok hd
        obtain ⟨q, rfl, hq⟩ := conc_natOf (E := E) hk
        obtain ⟨l⟩ := cs
        obtain ⟨r1, r2⟩ := run_part (w := w) hd (goodA_iff.1 hg) h
        refine ⟨?_, r2⟩
        have hc : conc E (.agg ⟨l⟩) = .agg ⟨l.map (conc E)⟩ := by simp [conc, concA_mk]
        rw [hc, hq]
        simp [Instr.index, asIntOf, run_underlying hu, hb, run_sizeOf hj, r1]
  · rename_i s k i hk ht
    cases hn : nth s.data.toList k with
    | none => rw [hn] at h; cases h
    | some b =>
      simp only [hn, Option.some.injEq] at h
      subst h
      refine ⟨?_, trivial⟩
      obtain ⟨hu, _⟩ := tab_ok ht
      obtain ⟨q, rfl, hq⟩ := conc_natOf (E := E) hk
      rw [nth_eq, Array.getElem?_toList] at hn
      have hs : s[k]? = some b := by
        rw [← hn]
        rfl
      rw [hq]
      simp [Instr.index, asIntOf, run_underlying hu, conc, hs]
  · cases h
theorem extract_ok {x v : Value} {k : Nat} (hg : good E x) (h : extractE x k = some v) (w : World) : (Instr.extract (conc E x) k).run PP w = .ok (conc E v) w ∧ good E v := by
  unfold extractE at h
  split at h
  · rename_i vs
    obtain ⟨l⟩ := vs
    rw [nth_eq] at h
    refine ⟨?_, goodA_iff.1 hg v (List.mem_of_getElem? h)⟩
    have hc : conc E (.tuple ⟨l⟩) = .tuple ⟨l.map (conc E)⟩ := by simp [conc, concA_mk]
    have h : l[k]? = some v := h
    rw [hc]
    simp [Instr.extract, h]
  · cases h
theorem un_ok {op : UnOp} {x : Value} (w : World) : VOk w0 E H w ((Op.unary op (conc E x)).run PP w) (unE op x) := by
  unfold unE
  cases ha : afree x with
  | false => trivial
  | true =>
    rw [cond_true, (afree_ok E ha).1]
    generalize Op.unary op x = s
    exact dflt_ok s
end
end Go.Proofs.YtgjabfpkbcdkcaaGreatDoor
