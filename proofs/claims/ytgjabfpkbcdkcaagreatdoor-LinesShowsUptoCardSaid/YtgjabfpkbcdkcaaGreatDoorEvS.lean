/- The evaluator's maps. -/
import Derived.Test.YtgjabfpkbcdkcaaGreatDoorEvR
import Derived.MapKept
namespace Go.Proofs.YtgjabfpkbcdkcaaGreatDoor
set_option linter.unusedVariables false
set_option linter.unusedSimpArgs false
theorem setNth_eq {α : Type} (l : List α) (i : Nat) (x : α) (h : i < l.length) : setNth l i x = l.set i x := by
  unfold setNth
  rw [app_eq, cons_eq, tk_eq, dr_eq, List.set_eq_take_append_cons_drop, if_pos h]
theorem delNth_eq {α : Type} (l : List α) (i : Nat) : delNth l i = l.eraseIdx i := by
  unfold delNth
  rw [app_eq, tk_eq, dr_eq, List.eraseIdx_eq_take_drop_succ]
theorem mfind_nil (kd : TypeDesc) (k : Value) (i : Nat) : mfind kd k [] i = some none := rfl
theorem mfind_cons (kd : TypeDesc) (k : Value) (e : Value × Value) (es : List (Value × Value)) (i : Nat) : mfind kd k (e :: es) i =
    (match Instr.sameNow kd k e.1 with | some true => some (some (i, e.2)) | some false => mfind kd k es (i + 1) | none => none) := rfl
theorem same_key {kd : TypeDesc} {k q : Value} (h : keyable kd k = true) (hs : Instr.sameNow kd k q = some true) : q = k := by
  unfold keyable at h
  split at h
  · rename_i a b n
    cases q with
    | int j m =>
      simp only [Instr.sameNow] at hs
      split at hs
      · rename_i hk
        simp at hs
        rw [hk, hs]
      · cases hs
    | _ => simp [Instr.sameNow] at hs
  · rename_i s
    cases q with
    | string u =>
      simp only [Instr.sameNow, Option.some.injEq] at hs
      rw [(Go.MapKept.bytes_beq s u).1 hs]
    | _ => simp [Instr.sameNow] at hs
  · cases h
theorem same_bits {kd : TypeDesc} {k : Value} (h : keyable kd k = true) : Instr.sameBits 10000 k k = true := by
  unfold keyable at h
  split at h
  · simp [Instr.sameBits]
  · rename_i s
    simpa [Instr.sameBits] using (Go.MapKept.bytes_beq s s).2 rfl
  · cases h
theorem key_conc {E : En} {kd : TypeDesc} {k : Value} (h : keyable kd k = true) : conc E k = k := by
  unfold keyable at h
  split at h
  · rfl
  · rfl
  · cases h
section
variable {P : Program} {w : World}
theorem run_checkKey {kt : TypeId} {kd : TypeDesc} (hu : P.underlying kt = some kd) {k : Value} (h : keyable kd k = true) (b : Bool) : (Instr.checkKey b 10000 kt k).run P w = .ok () w := by
  rw [show (10000 : Nat) = 9999 + 1 from rfl]
  unfold Instr.checkKey
  simp only [Sem.run_bind, run_underlying hu, Result.andThen]
  unfold keyable at h
  split at h
  · rfl
  · rfl
  · cases h
theorem findNow_eq {E : En} {kd : TypeDesc} {k : Value} : ∀ (ents : List MapEntry) (es : List (Value × Value)) (i : Nat), ents.map (fun e => (e.key, e.val)) = es.map (fun p => (p.1, conc E p.2)) →
    Instr.findNow kd k ents i = (mfind kd k es i).map (Option.map fun p => (p.1, conc E p.2)) := by
  intro ents
  induction ents with
  | nil =>
    intro es i h
    cases es with
    | nil => rfl
    | cons p es => simp at h
  | cons e ents ih =>
    intro es i h
    cases es with
    | nil => simp at h
    | cons p es =>
      simp only [List.map_cons, List.cons.injEq, Prod.mk.injEq] at h
      obtain ⟨⟨h1, h2⟩, h3⟩ := h
      rw [mfind_cons, Instr.findNow, h1, h2]
      cases Instr.sameNow kd k p.1 with
      | none => rfl
      | some b =>
        cases b with
        | true => rfl
        | false => exact ih es (i + 1) h3
theorem mfind_at {kd : TypeDesc} {k : Value} : ∀ (es : List (Value × Value)) (i j : Nat) (v : Value), mfind kd k es i = some (some (j, v)) → ∃ n q, j = i + n ∧ es[n]? = some (q, v) ∧ Instr.sameNow kd k q = some true := by
  intro es
  induction es with
  | nil => intro i j v h; simp [mfind_nil] at h
  | cons p es ih =>
    intro i j v h
    rw [mfind_cons] at h
    split at h
    · rename_i hs
      simp only [Option.some.injEq, Prod.mk.injEq] at h
      obtain ⟨rfl, rfl⟩ := h
      exact ⟨0, p.1, rfl, rfl, hs⟩
    · obtain ⟨n, q, h1, h2, h3⟩ := ih (i + 1) j v h
      exact ⟨n + 1, q, by omega, by simpa using h2, h3⟩
    · cases h
theorem run_findKey {kt : TypeId} {kd : TypeDesc} (hu : P.underlying kt = some kd) {k : Value} {ents : List MapEntry} {r : Option (Nat × Value)} (h : Instr.findNow kd k ents 0 = some r) : (Instr.findKey kt k ents).run P w = .ok r w := by
  simp [Instr.findKey, run_underlying hu, h]
end
section
variable {w0 : Base} {w w' : World} {E E' : En} {H H' : Hp} {t e : TypeId} {d : TypeDesc} {i : TypeInfo}
/-- the map that the evaluator sees is the world's -/
theorem mapOf_ok (S : Sim PP w0 E H w) {m : Value} {kd : TypeDesc} {id : Nat} {es : List (Value × Value)} (h : mapOf t m H = some (kd, id, es)) :
    ∃ kt et b c ents clock, PP.underlying t = some (.map kt et) ∧ PP.underlying kt = some kd ∧ m = .map (some id) ∧ H.t.get id = some (.map es) ∧ E id = some (b, c) ∧ ¬ w0.K b ∧ w.heap[b]? = some (.map ents clock) ∧
      ents.toList.map (fun e => (e.key, e.val)) = es.map (fun p => (p.1, conc E p.2)) ∧ (∀ p ∈ es, good E p.2) ∧ conc E m = .map (some b) := by
  unfold mapOf at h
  split at h
  · rename_i kt et _ id' ht
    split at h
    · rename_i kd' _ es' hk hg
      simp only [Option.some.injEq, Prod.mk.injEq] at h
      obtain ⟨rfl, rfl, rfl⟩ := h
      obtain ⟨b, c, hE, hb, ents, clock, a1, a2, a3⟩ := S.at_ hg (by intro q; simp)
      exact ⟨kt, et, b, c, ents, clock, (tab_ok ht).1, (tab_ok hk).1, rfl, hg, hE, hb, a1, a2, a3, by simp [conc, En.blk, hE]⟩
    · cases h
  · cases h
theorem Sim.putMap (S : Sim PP w0 E H w) {id b c : Nat} {es es' : List (Value × Value)} {ents : Array MapEntry} {clock : Nat} (hg : H.t.get id = some (.map es)) (hE : E id = some (b, c)) (hb : ¬ w0.K b) (hlt : b < w.heap.size)
    (h1 : ents.toList.map (fun e => (e.key, e.val)) = es'.map (fun p => (p.1, conc E p.2))) (h2 : ∀ p ∈ es', good E p.2) :
    Sim PP w0 E (H.put id (.map es')) { w with heap := w.heap.setIfInBounds b (.map ents clock) } :=
  S.put hg hE hb (by simp) (fun k hk => by simp [Array.getElem?_setIfInBounds_ne (Ne.symm hk)]) rfl rfl rfl (by intro q; simp) ⟨ents, clock, by simp [hlt], h1, h2⟩
theorem mapPut_ok (S : Sim PP w0 E H w) {m k x : Value} (h : mapPutE t m k x H = some H') (hgx : good E x) : ∃ w', (Instr.mapUpdate t (conc E m) (conc E k) (conc E x)).run PP w = .ok () w' ∧ Sim PP w0 E H' w' := by
  unfold mapPutE at h
  cases hm : mapOf t m H with
  | none => rw [hm] at h; cases h
  | some y =>
    obtain ⟨kd, id, es⟩ := y
    obtain ⟨kt, et, b, c, ents, clock, hu, hk, rfl, hg, hE, hb, a1, a2, a3, hc⟩ := mapOf_ok S hm
    have hlt := (Array.getElem?_eq_some_iff.1 a1).1
    simp only [hm] at h
    cases hkb : keyable kd k with
    | false => rw [hkb] at h; cases h
    | true =>
      rw [hkb, cond_true] at h
      have hck := run_checkKey (P := PP) (w := w) hk hkb false
      have hkc := key_conc (E := E) hkb
      have hfn := findNow_eq (kd := kd) (k := k) ents.toList es 0 a2
      cases hf : mfind kd k es 0 with
      | none => rw [hf] at h; cases h
      | some r =>
        rw [hf] at hfn h
        have hfk := run_findKey (P := PP) (w := w) hk hfn
        have hlen : ents.size = es.length := by have := congrArg List.length a2; simpa using this
        cases r with
        | none =>
          simp only [sh_eq, fL_eq, Option.some.injEq] at h
          subst h
          rw [app_eq]
          refine ⟨_, ?_, S.putMap (ents := ents.push { key := k, val := conc E x, born := clock }) (clock := clock + 1) hg hE hb hlt ?_ ?_⟩
          · rw [hc, hkc]
            simp only [Option.map_none] at hfk
            simp [Instr.mapUpdate, run_underlying hu, getObj, setObj, Sem.run, a1, hck, hfk]
          · simp [a2]
          · intro p hp
            rcases List.mem_append.1 hp with hp | hp
            · exact a3 p hp
            · simp at hp; subst hp; exact hgx
        | some q =>
          obtain ⟨j, v⟩ := q
          simp only [sh_eq, fL_eq, Option.some.injEq] at h
          subst h
          obtain ⟨n, q, hj, hq, hsame⟩ := mfind_at es 0 j v hf
          obtain rfl : j = n := by omega
          obtain rfl := same_key hkb hsame
          have hjl := (List.getElem?_eq_some_iff.1 hq).1
          rw [setNth_eq _ _ _ hjl]
          refine ⟨_, ?_, S.putMap (ents := ents.modify j fun e => { e with key := q, val := conc E x }) (clock := clock) hg hE hb hlt ?_ ?_⟩
          · rw [hc, hkc]
            simp only [Option.map_some] at hfk
            have hkey : ((ents[j]?).map (·.key)).getD q = q := by
              have := congrArg (fun l => (l[j]?).map (·.1)) a2
              simp [hq] at this
              cases he : ents[j]? with
              | none => simp [he] at this
              | some e => simp [he] at this ⊢; exact this
            have hstay : (Instr.keyThatStays q q).run PP w = .ok q w := by simp [Instr.keyThatStays, same_bits hkb]
            simp [Instr.mapUpdate, run_underlying hu, getObj, setObj, Sem.run, a1, hck, hfk, hkey, hstay]
          · have : (ents.modify j fun e => { e with key := q, val := conc E x }).toList = ents.toList.modify j fun e => { e with key := q, val := conc E x } := by simp
            rw [this]
            apply List.ext_getElem?
            intro n
            have hn := congrArg (fun l => l[n]?) a2
            simp only [List.getElem?_map] at hn ⊢
            rw [List.getElem?_modify, List.getElem?_set]
            by_cases e : j = n
            · subst e
              cases he : ents.toList[j]? with
              | none => rw [he, hq] at hn; cases hn
              | some e => simp [hjl]
            · simp only [e, if_false]
              rw [← hn]
              cases he : ents.toList[n]? <;> rfl
          · intro p hp
            rcases List.mem_or_eq_of_mem_set hp with hp | rfl
            · exact a3 p hp
            · exact hgx
end
end Go.Proofs.YtgjabfpkbcdkcaaGreatDoor
