/- The evaluator's look-ups, deletions, lengths, slices, comparisons, conversions. -/
import Derived.Test.YtgjabfpkbcdkcaaGreatDoorEvS
import Derived.LaidEql
namespace Go.Proofs.YtgjabfpkbcdkcaaGreatDoor
set_option linter.unusedVariables false
set_option linter.unusedSimpArgs false
section
variable {w0 : Base} {w w' : World} {E E' : En} {H H' : Hp} {t e : TypeId} {d : TypeDesc} {i : TypeInfo}
theorem fin_conc (ok : Bool) (v : Value) (b : Bool) : conc E (finE ok v b) = (if ok then .tuple #[conc E v, .bool b] else conc E v) ∧ (good E v → good E (finE ok v b)) := by
  cases ok
  · exact ⟨rfl, id⟩
  · refine ⟨by simp [finE, conc, concA_mk], fun h => ?_⟩
    show goodA E ⟨[v, .bool b]⟩
    exact ⟨h, trivial, trivial⟩
theorem mapGet_ok (S : Sim PP w0 E H w) {m k v : Value} {ok : Bool} (h : mapGetE t m k ok H = some v) : (Instr.lookup t (conc E m) (conc E k) ok).run PP w = .ok (conc E v) w ∧ good E v := by
  unfold mapGetE at h
  split at h
  · rename_i kt et _ ht
    obtain ⟨hu, _⟩ := tab_ok ht
    have hzero : ∀ v, (match zeroE et with | some z => some (finE ok z false) | none => none) = some v → ∃ z i, PP.info? et = some i ∧ i.zero = some z ∧ conc E v = (if ok then .tuple #[z, .bool false] else z) ∧ good E v := by
      intro v hv
      cases hz : zeroE et with
      | none => rw [hz] at hv; cases hv
      | some z =>
        rw [hz, Option.some.injEq] at hv
        subst hv
        obtain ⟨i, hi, hzi, ha⟩ := zeroE_ok hz
        obtain ⟨c1, c2⟩ := afree_ok E ha
        obtain ⟨f1, f2⟩ := fin_conc (E := E) ok z false
        exact ⟨z, i, hi, hzi, by rw [f1, c1], f2 c2⟩
    split at h
    · cases hk : tabE kt with
      | none => rw [hk] at h; cases h
      | some y =>
        obtain ⟨kd, ki⟩ := y
        simp only [hk] at h
        cases hkb : keyable kd k with
        | false => rw [hkb] at h; cases h
        | true =>
          rw [hkb, cond_true] at h
          obtain ⟨z, i, hi, hz, hc, hg⟩ := hzero v h
          refine ⟨?_, hg⟩
          have hkk := (tab_ok hk).1
          have hck := run_checkKey (P := PP) (w := w) hkk hkb true
          have hfk := run_findKey (P := PP) (w := w) (k := k) (ents := []) (r := none) hkk rfl
          have hzv := run_zeroValue (w := w) hi hz
          rw [hc, key_conc hkb]
          cases ok <;> simp [Instr.lookup, run_underlying hu, conc, hck, hfk, hzv]
    · cases hm : mapOf t m H with
      | none => rw [hm] at h; cases h
      | some y =>
        obtain ⟨kd, id, es⟩ := y
        obtain ⟨kt', et', b, c, ents, clock, hu', hk, rfl, hg, hE, hb, a1, a2, a3, hc⟩ := mapOf_ok S hm
        obtain ⟨rfl, rfl⟩ : kt = kt' ∧ et = et' := by rw [hu] at hu'; simpa using hu'
        simp only [hm] at h
        cases hkb : keyable kd k with
        | false => rw [hkb] at h; cases h
        | true =>
          rw [hkb, cond_true] at h
          have hck := run_checkKey (P := PP) (w := w) hk hkb ents.isEmpty
          have hfn := findNow_eq (kd := kd) (k := k) ents.toList es 0 a2
          cases hf : mfind kd k es 0 with
          | none => rw [hf] at h; cases h
          | some r =>
            rw [hf] at hfn h
            have hfk := run_findKey (P := PP) (w := w) hk hfn
            rw [hc, key_conc hkb]
            cases r with
            | none =>
              obtain ⟨z, i, hi, hz, hcv, hgv⟩ := hzero v h
              refine ⟨?_, hgv⟩
              have hzv := run_zeroValue (w := w) hi hz
              rw [hcv]
              simp only [Option.map_none] at hfk
              cases ok <;> simp [Instr.lookup, run_underlying hu, getObj, Sem.run, a1, hck, hfk, hzv]
            | some q =>
              obtain ⟨j, u⟩ := q
              simp only [Option.some.injEq] at h
              subst h
              obtain ⟨n, q, hj, hq, _⟩ := mfind_at es 0 j u hf
              obtain ⟨f1, f2⟩ := fin_conc (E := E) ok u true
              refine ⟨?_, f2 (a3 _ (List.mem_of_getElem? hq))⟩
              rw [f1]
              simp only [Option.map_some] at hfk
              cases ok <;> simp [Instr.lookup, run_underlying hu, getObj, Sem.run, a1, hck, hfk]
  · cases h
theorem mapDel_ok (S : Sim PP w0 E H w) {m k : Value} {ts : Array TypeId} {ty : TypeId} (h0 : ts[0]? = some t) (h : mapDelE t m k H = some H') : ∃ w', (Builtin.delete_ ts ty #[conc E m, conc E k]).run PP w = .ok (.tuple #[]) w' ∧ Sim PP w0 E H' w' := by
  unfold mapDelE at h
  cases hm : mapOf t m H with
  | none => rw [hm] at h; cases h
  | some y =>
    obtain ⟨kd, id, es⟩ := y
    obtain ⟨kt, et, b, c, ents, clock, hu, hk, rfl, hg, hE, hb, a1, a2, a3, hc⟩ := mapOf_ok S hm
    have hlt := (Array.getElem?_eq_some_iff.1 a1).1
    simp only [hm] at h
    cases hkb : keyable kd k with
    | false => rw [hkb] at h; cases h
    | true =>
      rw [hkb, cond_true] at h
      have hck := run_checkKey (P := PP) (w := w) hk hkb ents.isEmpty
      have hkc := key_conc (E := E) hkb
      have hfn := findNow_eq (kd := kd) (k := k) ents.toList es 0 a2
      cases hf : mfind kd k es 0 with
      | none => rw [hf] at h; cases h
      | some r =>
        rw [hf] at hfn h
        have hfk := run_findKey (P := PP) (w := w) hk hfn
        cases r with
        | none =>
          simp only [Option.some.injEq] at h
          subst h
          refine ⟨_, ?_, S.putMap (ents := ents) (clock := clock) hg hE hb hlt a2 a3⟩
          rw [hc, hkc]
          simp only [Option.map_none] at hfk
          simp [Builtin.delete_, h0, run_underlying hu, getObj, setObj, Sem.run, a1, hck, hfk]
        | some q =>
          obtain ⟨j, v⟩ := q
          simp only [fL_eq, Option.some.injEq] at h
          subst h
          obtain ⟨n, q, hj, hq, hsame⟩ := mfind_at es 0 j v hf
          obtain rfl : j = n := by omega
          have hjl := (List.getElem?_eq_some_iff.1 hq).1
          have hlen : ents.size = es.length := by have := congrArg List.length a2; simpa using this
          rw [delNth_eq]
          refine ⟨_, ?_, S.putMap (ents := ents.eraseIdxIfInBounds j) (clock := clock) hg hE hb hlt ?_ (fun p hp => a3 p (List.mem_of_mem_eraseIdx hp))⟩
          · rw [hc, hkc]
            simp only [Option.map_some] at hfk
            simp [Builtin.delete_, h0, run_underlying hu, getObj, setObj, Sem.run, a1, hck, hfk]
          · have : (ents.eraseIdxIfInBounds j).toList = ents.toList.eraseIdx j := by
              unfold Array.eraseIdxIfInBounds
              rw [dif_pos (by omega)]
              simp
            rw [this, Go.ChangeMaps.map_eraseIdx, a2, ← Go.ChangeMaps.map_eraseIdx]
theorem len_ok (S : Sim PP w0 E H w) {x v : Value} {ts : Array TypeId} {ty : TypeId} (h0 : ts[0]? = some t) (h : lenE t x H = some v) : (Builtin.len_ ts ty #[conc E x]).run PP w = .ok (conc E v) w ∧ good E v := by
  unfold lenE at h
  cases ht : tabE t with
  | none => rw [ht] at h; cases h
  | some y =>
    obtain ⟨d, i⟩ := y
    obtain ⟨hu, _⟩ := tab_ok ht
    simp only [ht] at h
    split at h
    · rename_i s
      simp only [Option.some.injEq, ln_eq] at h
      subst h
      refine ⟨?_, trivial⟩
      have hs : (⟨⟨s⟩⟩ : ByteArray).size = s.length := rfl
      simp [Builtin.len_, h0, run_underlying hu, conc, goInt, hs]
    · rename_i e a n c
      simp only [Option.some.injEq] at h
      subst h
      refine ⟨?_, trivial⟩
      cases a <;> simp [Builtin.len_, h0, run_underlying hu, conc, goInt]
    · rename_i n e
      simp only [Option.some.injEq] at h
      subst h
      refine ⟨?_, trivial⟩
      simp [Builtin.len_, h0, run_underlying hu, conc, goInt]
    · simp only [Option.some.injEq] at h
      subst h
      refine ⟨?_, trivial⟩
      simp [Builtin.len_, h0, run_underlying hu, conc, goInt]
    · rename_i k e id
      split at h
      · rename_i es hg
        simp only [Option.some.injEq, ln_eq] at h
        subst h
        obtain ⟨b, c, hE, hb, ents, clock, a1, a2, a3⟩ := S.at_ hg (by intro q; simp)
        have hlen : ents.size = es.length := by have := congrArg List.length a2; simpa using this
        refine ⟨?_, trivial⟩
        simp [Builtin.len_, h0, run_underlying hu, conc, goInt, En.blk, hE, getObj, Sem.run, a1, hlen]
      · cases h
    · cases h
/-! ### pointers compared -/
theorem eqE_ok {x y : Value} {b : Bool} (h : eqE t x y = some b) (w : World) : (Op.equal t (conc E x) (conc E y)).run PP w = .ok b w := by
  unfold eqE at h
  cases ht : tabE t with
  | none => rw [ht] at h; cases h
  | some z =>
    obtain ⟨d, i⟩ := z
    obtain ⟨hu, _⟩ := tab_ok ht
    simp only [ht] at h
    have hd : ∃ n, Op.maxDepth = n + 1 := ⟨9999, rfl⟩
    obtain ⟨n0, hd⟩ := hd
    unfold Op.equal
    rw [hd]
    clear hd
    split at h
    · rename_i e a
      simp only [Option.some.injEq] at h
      subst h
      cases a <;> simp [Op.equalIn, run_underlying hu, conc]
    · simp only [Option.some.injEq] at h
      subst h
      simp [Op.equalIn, run_underlying hu, conc]
    · rename_i e a c
      unfold eqP at h
      cases hs : sizeE e with
      | none => rw [hs] at h; cases h
      | some sz =>
        obtain ⟨j, hj, rfl⟩ := sizeE_ok hs
        simp only [hs] at h
        cases hb : (decide (a = c) && Nat.blt 0 j.size) with
        | false => rw [hb] at h; cases h
        | true =>
          rw [hb, cond_true, Option.some.injEq] at h
          subst h
          simp only [Bool.and_eq_true, decide_eq_true_eq, Nat.blt_eq] at hb
          obtain ⟨rfl, hb⟩ := hb
          simp [Op.equalIn, run_underlying hu, conc, run_sizeOf hj, show j.size ≠ 0 by omega, run_sameAddr_same]
    · rename_i e n c a m q
      simp only [Option.some.injEq] at h
      subst h
      cases a <;> simp [Op.equalIn, run_underlying hu, conc]
    · simp only [Option.some.injEq] at h
      subst h
      simp [Op.equalIn, run_underlying hu, conc]
    · rename_i k e a
      simp only [Option.some.injEq] at h
      subst h
      cases a <;> simp [Op.equalIn, run_underlying hu, conc]
    · simp only [Option.some.injEq] at h
      subst h
      simp [Op.equalIn, run_underlying hu, conc]
    · simp only [Option.some.injEq] at h
      subst h
      simp [Op.equalIn, run_underlying hu, conc]
    · simp only [Option.some.injEq] at h
      subst h
      simp [Op.equalIn, run_underlying hu, conc]
    · simp only [Option.some.injEq] at h
      subst h
      simp [Op.equalIn, run_underlying hu, conc]
    · simp only [Option.some.injEq] at h
      subst h
      simp [Op.equalIn, run_underlying hu, conc]
    · simp only [Option.some.injEq] at h
      subst h
      simp [Op.equalIn, run_underlying hu, conc]
    · cases h
/-! ### slices of slices -/
theorem bnd_ok {y z n : Nat} {x : Option Value} {code : BoundsCode} (h : bnd y x z = some n) (w : World) :
    (match x.map (conc E) with | some v => Instr.sliceBound v y code | none => pure z).run PP w = .ok n w ∧ (x.isSome = true → n ≤ y) ∧ (x = none → n = z) := by
  unfold bnd at h
  split at h
  · simp only [Option.some.injEq] at h
    subst h
    exact ⟨rfl, (fun h => by cases h), fun _ => rfl⟩
  · rename_i k m
    cases hb : Nat.ble m y with
    | false => rw [hb] at h; cases h
    | true =>
      rw [hb, cond_true, Option.some.injEq] at h
      subst h
      have hb := Nat.le_of_ble_eq_true hb
      refine ⟨?_, fun _ => hb, (fun h => by cases h)⟩
      have : (Int.ofNat m) = (m : Int) := rfl
      simp [conc, Instr.sliceBound, asIntOf, this, hb]
  · cases h
end
end Go.Proofs.YtgjabfpkbcdkcaaGreatDoor
