/- The evaluator's append, whole. -/
import Derived.Test.YtgjabfpkbcdkcaaGreatDoorEvP
namespace Go.Proofs.YtgjabfpkbcdkcaaGreatDoor
set_option linter.unusedVariables false
set_option linter.unusedSimpArgs false
section
variable {w0 : Base} {w w' : World} {E E' : En} {H H' : Hp} {t e : TypeId} {d : TypeDesc} {i : TypeInfo}
theorem add_conc (E : En) (id off k : Nat) : (cAddr E ⟨id, off, none⟩).add k = ⟨E.blk id, off + k, none⟩ := addr_add _ _ _
theorem HALF_OPEN : HALF ≤ OPEN := by decide
theorem appE_ok (S : Sim PP w0 E H w) {zs : Bool} {ts : Array TypeId} {st xt ty : TypeId} {dx : TypeDesc} (h0 : ts[0]? = some st) (h1 : ts[1]? = some xt) (hx : PP.underlying xt = some dx) (hz : zsOf dx = some zs) {s x : Value} (hgs : good E s) (hgx : good E x) :
    VOk w0 E H w ((Builtin.append_ ts ty #[conc E s, conc E x]).run PP w) (appE zs st s x H) := by
  unfold appE
  split
  · rename_i e _ base len cap hst
    obtain ⟨hu, _⟩ := tab_ok hst
    cases he : tabE e with
    | none => trivial
    | some y =>
      obtain ⟨d, i⟩ := y
      obtain ⟨_, hi⟩ := tab_ok he
      simp only
      cases hn : newsOf zs i x H with
      | none => trivial
      | some y =>
        obtain ⟨n, new⟩ := y
        obtain ⟨N, hgn, hlen⟩ := news_ok S hn hgx
        obtain ⟨c', hc', hle, hknown, hopen⟩ := slice_conc hgs
        simp only
        cases hn0 : Nat.beq n 0 with
        | true =>
          rw [cond_true]
          have hn0 := Nat.eq_of_beq_eq_true hn0
          subst hn0
          have hnil : new = [] := List.eq_nil_of_length_eq_zero (by omega)
          subst hnil
          cases hb : Nat.ble i.bytes 65536 with
          | false => trivial
          | true =>
            rw [cond_true]
            refine ⟨?_, hgs⟩
            rw [hc']
            refine run_app h0 h1 hu hi hx hz N (Nat.le_of_ble_eq_true hb) _ _ _ (fun _ => ?_) (fun h => by omega)
            cases base <;> simp [storeCells, cAddr]
        | false =>
          rw [cond_false]
          cases hbad : (Nat.ble i.size 0 || !(all1 new) || Nat.blt 65536 i.bytes || Nat.blt 1048576 (len + n) || (zerosE i 0).isNone) with
          | true => trivial
          | false =>
            rw [cond_false]
            simp only [Bool.or_eq_false_iff, Bool.not_eq_false'] at hbad
            obtain ⟨⟨⟨⟨b1, b2⟩, b3⟩, b4⟩, b5⟩ := hbad
            have hsz : 0 < i.size := by
              rcases Nat.eq_zero_or_pos i.size with h | h
              · rw [h] at b1; cases b1
              · exact h
            have hbytes : i.bytes ≤ 65536 := by
              rcases Nat.lt_or_ge 65536 i.bytes with h | h
              · rw [Nat.blt_eq.mpr h] at b3; cases b3
              · exact h
            have hsmall : len + n ≤ 1048576 := by
              rcases Nat.lt_or_ge 1048576 (len + n) with h | h
              · rw [Nat.blt_eq.mpr h] at b4; cases b4
              · exact h
            obtain ⟨z0, hz0⟩ := Option.isSome_iff_exists.1 (by simpa using b5 : (zerosE i 0).isSome = true)
            obtain ⟨zv, hzv, hza, hzs, _, _⟩ := zerosE_ok hz0
            cases hcap : Nat.blt cap HALF with
            | true =>
              rw [cond_true]
              have hcap : cap < HALF := by rwa [Nat.blt_eq] at hcap
              obtain rfl := hknown hcap
              cases hroom : Nat.ble (len + n) c' with
              | true =>
                rw [cond_true]
                have hroom := Nat.le_of_ble_eq_true hroom
                unfold appRoom
                split
                · rename_i id off
                  cases hw : writeE H id (off + len * i.size) new with
                  | none => trivial
                  | some H' =>
                    obtain ⟨hs, w', hr, hS⟩ := write_ok S hw hgn
                    refine ⟨E, w', ?_, En.le_refl E, hS, ?_⟩
                    · rw [hc']
                      refine run_app h0 h1 hu hi hx hz N hbytes _ _ _ (fun _ => ?_) (fun h => by omega)
                      simp only [Option.map_some, add_conc, hr, Result.andThen_ok]
                      simp [conc, cCap, show ¬ (HALF ≤ c') by omega, cAddr]
                    · simp only [good]
                      exact ⟨hs, fun h => by omega, fun _ => hroom⟩
                · trivial
              | false =>
                rw [cond_false]
                have hroom : c' < len + n := by
                  rcases Nat.lt_or_ge c' (len + n) with h | h
                  · exact h
                  · rw [Nat.ble_eq_true_of_le h] at hroom; cases hroom
                cases hf : firstOf H i.size len (.slice base len c') with
                | none => trivial
                | some old =>
                  simp only
                  obtain ⟨f1, f2, f3⟩ := first_ok S hf rfl
                  have f3 := f3 _ _ _ rfl
                  rw [app_eq]
                  have hrun : ∃ gc, len + n ≤ gc ∧ (Builtin.append_ ts ty #[conc E (.slice base len c'), conc E x]).run PP w = .ok (.slice (some ⟨w.heap.size, 0, none⟩) (len + n) gc)
                      (w.drew.alloc (.cells ⟨old.map (conc E) ++ new.map (conc E) ++ (List.replicate (gc - (len + n)) zv.cells.toList).flatten⟩ e)) := by
                    refine ⟨_, grownCap_ge w (len + n) c' e, ?_⟩
                    rw [hc']
                    exact run_app h0 h1 hu hi hx hz N hbytes _ _ _ (fun h => by omega) (fun _ => ⟨hsmall, zv, old.map (conc E), hzv, fun w1 hw1 => by
                      have := (first_ok S hf hw1).1
                      rw [hc'] at this
                      exact this, rfl⟩)
                  obtain ⟨gc, hgc, hrun⟩ := hrun
                  rw [hrun, ← List.map_append]
                  refine rowE_ok S (fun v hv => (List.mem_append.1 hv).elim (f2 v) (hgn v)) hi ?_ hzs hgc
                  rw [List.length_append, f3, hlen, ← Nat.add_mul, ← Nat.add_mul]
                  rw [show len + n + (gc - (len + n)) = gc by omega]
            | false =>
              rw [cond_false]
              have hcap : HALF ≤ cap := by
                rcases Nat.lt_or_ge cap HALF with h | h
                · rw [Nat.blt_eq.mpr h] at hcap; cases hcap
                · exact h
              unfold appOpen
              split
              · rename_i id
                split
                · rename_i ty' cs hg
                  split
                  · rename_i old hold
                    cases hb : (Nat.beq cap OPEN && Nat.beq ty' e) with
                    | false => rw [hb] at hold; cases hold
                    | true =>
                      rw [hb, cond_true] at hold
                      simp only [Bool.and_eq_true] at hb
                      obtain rfl := Nat.eq_of_beq_eq_true hb.1
                      obtain rfl := Nat.eq_of_beq_eq_true hb.2
                      have hf : firstOf H i.size len (.slice (some ⟨id, 0, none⟩) len OPEN) = some old := by
                        unfold firstOf cellsOf
                        simp only [hg, hold]
                      obtain ⟨f1, f2, f3⟩ := first_ok S hf rfl
                      have f3 := f3 _ _ _ rfl
                      obtain ⟨b, c, hE, hbb, arr, fr, a1, a2, ⟨rest, a3, _⟩, a4, a5⟩ := S.at_ hg (by intro q; simp)
                      obtain ⟨i', hi', hasz⟩ := a4 rfl
                      obtain rfl : i = i' := by rw [hi] at hi'; simpa using hi'
                      have hcc : c' = c := by
                        obtain ⟨a, ha, hc2, _⟩ := hopen HALF_OPEN
                        simp only [Option.some.injEq] at ha
                        subst ha
                        rw [hc2]
                        simp [En.cap, hE]
                      subst hcc
                      have hblk : E.blk id = b := by simp [En.blk, hE]
                      rw [fH_eq, app_eq]
                      by_cases hroom : len + n ≤ c'
                      · unfold rowE
                        rw [fL_eq]
                        have hfit : len * i.size + (new.map (conc E)).length ≤ arr.size := by
                          rw [List.length_map, hlen, ← Nat.add_mul, hasz]
                          exact Nat.mul_le_mul_right _ hroom
                        have hone : ∀ v ∈ new.map (conc E), v.oneCell' = true := fun v hv => by
                          obtain ⟨u, hu, rfl⟩ := List.mem_map.1 hv
                          rw [one1_cell, conc_one1]
                          exact allB_iff.1 b2 u hu
                        have hrun := run_storeCells_any b (len * i.size) ty' fr (new.map (conc E)) 0 arr w a1 (by simpa using hfit) (fun j _ hj => a5 rfl j (by simp at hj hfit; omega)) hone
                        obtain ⟨h1', h2', h3'⟩ := part?_some hold
                        have hcsl : len * i.size ≤ cs.length := by
                          rcases h3' with h | h
                          · have h : len * i.size = 0 := h
                            omega
                          · have h : 0 + len * i.size ≤ cs.length := h
                            omega
                        have htake : arr.toList.take (len * i.size + 0) = old.map (conc E) := by
                          have e1 : old = cs.take (len * i.size) := by
                            have e2 : Nat.mul len i.size = len * i.size := rfl
                            rw [h1', List.drop_zero, e2]
                          rw [a3, Nat.add_zero, List.take_append_of_le_length (by rw [List.length_map]; exact hcsl), ← List.map_take, ← e1]
                        rw [htake, ← List.map_append] at hrun
                        have hle := En.add_le (x := (b, c')) S.nx_none
                        have hgood : ∀ v ∈ old ++ new, good E v := fun v hv => (List.mem_append.1 hv).elim (f2 v) (hgn v)
                        have hheap := setRow_heap w b arr ((old ++ new).map (conc E) ++ arr.toList.drop (len * i.size + 0 + (new.map (conc E)).length)).toArray ty' fr a1
                        have hlen2 : ((old ++ new).map (conc E) ++ arr.toList.drop (len * i.size + 0 + (new.map (conc E)).length)).length = arr.size := by
                          simp at hfit ⊢
                          omega
                        have hmv := Sim.move (o' := .cells ty' (old ++ new) true false) (w' := w.setRow b ((old ++ new).map (conc E) ++ arr.toList.drop (len * i.size + 0 + (new.map (conc E)).length)).toArray) S hg hE hbb (by simp) (fun k hk => setRow_other w b k _ hk) rfl rfl rfl (by intro q; simp)
                          ⟨_, fr, hheap, fun v hv => (conc_le hle v (hgood v hv)).2, ⟨_, by rw [map_conc_le hle hgood], (fun h => by cases h)⟩, fun _ => ⟨i, hi, by rw [List.size_toArray, hlen2, hasz]⟩, fun _ j hj => by
                            rw [List.size_toArray, hlen2] at hj
                            have := a5 rfl j hj
                            unfold World.frozen? at *
                            simp only [a1, hheap] at *
                            exact this⟩
                        have hself : (E.add H.nx (b, c')) H.nx = some (b, c') := if_pos rfl
                        refine ⟨_, _, ?_, hmv.2, hmv.1, ?_⟩
                        · rw [hc']
                          refine run_app h0 h1 hu hi hx hz N hbytes _ _ _ (fun _ => ?_) (fun h => by omega)
                          simp only [Option.map_some, add_conc, Nat.zero_add, hblk, hrun, Result.andThen_ok]
                          simp [conc, cAddr, cCap, En.blk, En.cap, hself, Hp.del_nx, hE, HALF_OPEN]
                        · simp only [good, Hp.del_nx, hself]
                          exact ⟨rfl, fun _ => ⟨Nat.le_refl _, by simp [En.cap, hself]; exact hroom⟩, fun h => by have := HALF_OPEN; omega⟩
                      · have hrun : ∃ gc, len + n ≤ gc ∧ (Builtin.append_ ts ty #[conc E (.slice (some ⟨id, 0, none⟩) len OPEN), conc E x]).run PP w = .ok (.slice (some ⟨w.heap.size, 0, none⟩) (len + n) gc)
                            (w.drew.alloc (.cells ⟨old.map (conc E) ++ new.map (conc E) ++ (List.replicate (gc - (len + n)) zv.cells.toList).flatten⟩ ty')) := by
                          refine ⟨_, grownCap_ge w (len + n) c' ty', ?_⟩
                          rw [hc']
                          exact run_app h0 h1 hu hi hx hz N hbytes _ _ _ (fun h => by omega) (fun _ => ⟨hsmall, zv, old.map (conc E), hzv, fun w1 hw1 => by
                            have := (first_ok S hf hw1).1
                            rw [hc'] at this
                            exact this, rfl⟩)
                        obtain ⟨gc, hgc, hrun⟩ := hrun
                        rw [hrun, ← List.map_append]
                        refine rowE_ok (S.del id (S.noV hE)) (fun v hv => (List.mem_append.1 hv).elim (f2 v) (hgn v)) hi ?_ hzs hgc
                        rw [List.length_append, f3, hlen, ← Nat.add_mul, ← Nat.add_mul]
                        rw [show len + n + (gc - (len + n)) = gc by omega]
                  · trivial
                · trivial
              · trivial
  · trivial
end
end Go.Proofs.YtgjabfpkbcdkcaaGreatDoor
