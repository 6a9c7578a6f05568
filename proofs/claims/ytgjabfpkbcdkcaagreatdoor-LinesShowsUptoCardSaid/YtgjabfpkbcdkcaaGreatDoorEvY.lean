/- One operation of the evaluator's is the model's: builtins. -/
import Derived.Test.YtgjabfpkbcdkcaaGreatDoorEvX
import Derived.Laws.Tables
namespace Go.Proofs.YtgjabfpkbcdkcaaGreatDoor
set_option linter.unusedVariables false
set_option linter.unusedSimpArgs false
/-- an operation of the model's, against the evaluator's answer -/
def NOk (w0 : Base) (E : En) (H : Hp) (w : World) (R : Result Next) (r : OR) : Prop :=
  match r with
  | .v x => R = .ok (.value (conc E x)) w ∧ good E x
  | .w x H' => ∃ E' w', (R = .ok (.value (conc E' x)) w' ∨ (R = .ok .skip w' ∧ x = undef)) ∧ E.le E' ∧ Sim PP w0 E' H' w' ∧ good E' x
  | .en f args => R = (callFunc f ⟨args.map (conc E)⟩).run PP w ∧ ∀ v ∈ args, good E v
  | .df f a c => R = .ok (.defer ⟨.fn (.func f) ⟨c.map (conc E)⟩, ⟨a.map (conc E)⟩⟩) w ∧ (∀ v ∈ a, good E v) ∧ ∀ v ∈ c, good E v
  | .no => True
section
variable {w0 : Base} {w w' : World} {E E' : En} {H H' : Hp} {t e : TypeId} {d : TypeDesc} {i : TypeInfo}
theorem nok_v {s : Sem Value} {r : OR} (h : VOk w0 E H w (s.run PP w) r) : NOk w0 E H w ((do pure (.value (← s)) : Sem Next).run PP w) r := by
  cases r with
  | v x => obtain ⟨h1, h2⟩ := h; exact ⟨by simp [h1], h2⟩
  | w x H' => obtain ⟨E', w', h1, h2⟩ := h; exact ⟨E', w', .inl (by simp [h1]), h2⟩
  | no => trivial
  | en f a => exact h.elim
  | df f a c => exact h.elim
theorem vok_o {R : Result Value} {o : Option Value} (h : ∀ v, o = some v → R = .ok (conc E v) w ∧ good E v) : VOk w0 E H w R (ofO o) := by
  cases o with
  | none => trivial
  | some v => exact h v rfl
theorem nok_u {s : Sem Unit} {o : Option Hp} (h : ∀ H', o = some H' → ∃ w', s.run PP w = .ok () w' ∧ Sim PP w0 E H' w') : NOk w0 E H w ((do s; pure .skip : Sem Next).run PP w) (ofH o) := by
  cases o with
  | none => trivial
  | some H' =>
    obtain ⟨w', h1, h2⟩ := h H' rfl
    exact ⟨E, w', .inr ⟨by simp [h1], rfl⟩, En.le_refl E, h2, ⟨⟩⟩
theorem afree_args {args : List Value} (h : allB afree args = true) : args.map (conc E) = args := by
  have := allB_iff.1 h
  induction args with
  | nil => rfl
  | cons v l ih =>
    rw [List.map_cons, (afree_ok E (this v (by simp))).1, ih (allB_iff.2 fun x hx => this x (by simp [hx])) (fun x hx => this x (by simp [hx]))]
theorem cells_at {l : List UInt8} {cs : List Value} {b c : Nat} {ty : TypeId} {opn ro : Bool} {arr : Array Value} {fr : Nat × Nat} (h : part? cs 0 l.length = some (l.map fun b => .int .u8 (b.toNat : Int)))
    (hb : w.heap[b]? = some (.cells arr ty fr)) {rest : List Value} (ha : arr.toList = cs.map (conc E) ++ rest) :
    l.length ≤ arr.size ∧ ∀ j x, l[j]? = some x → w.cell? ((⟨b, 0, none⟩ : Addr).add j) = some (.int .u8 x.toNat) := by
  obtain ⟨h1, h2, h3⟩ := part?_some h
  have hlen : arr.size = cs.length + rest.length := by have := congrArg List.length ha; simpa using this
  refine ⟨by omega, fun j x hx => ?_⟩
  have hj := (List.getElem?_eq_some_iff.1 hx).1
  have hv : (l.map fun b => Value.int .u8 (b.toNat : Int))[j]? = some (.int .u8 (x.toNat : Int)) := by simp [hx]
  rw [h1, List.drop_zero, List.getElem?_take, if_pos hj] at hv
  have : arr[j]? = some (.int .u8 (x.toNat : Int)) := by
    rw [← Array.getElem?_toList, ha, List.getElem?_append_left (by simp; omega), List.getElem?_map, hv]
    rfl
  rw [addr_add]
  simp [World.cell?, hb, this]
theorem ustr_ok (S : Sim PP w0 E H w) {ts : List TypeId} {ty : TypeId} {x n : Value} :
    VOk w0 E H w ((Builtin.unsafeString_ ⟨ts⟩ ty #[conc E x, conc E n]).run PP w) (ustrE ts x n H) := by
  unfold ustrE
  split
  · rename_i pt it id n
    split
    · rename_i cty cs opn ro e _ hg hpt
      cases hb : (Nat.beq cty e && Nat.beq ((sizeE cty).getD 0) 1 && Nat.blt 0 n && Nat.ble n 1048576) with
      | false => trivial
      | true =>
        simp only [cond_true]
        cases hp : part? cs 0 n with
        | none => trivial
        | some l =>
          simp only
          cases hs : bytesE l with
          | none => trivial
          | some s =>
            simp only
            have hl := bytesE_ok l s hs
            simp only [Bool.and_eq_true] at hb
            obtain ⟨⟨⟨b1, b2⟩, b3⟩, b4⟩ := hb
            have b1 := Nat.eq_of_beq_eq_true b1
            have b2 := Nat.eq_of_beq_eq_true b2
            rw [Nat.blt_eq] at b3
            have b4 := Nat.le_of_ble_eq_true b4
            subst b1
            obtain ⟨hup, _⟩ := tab_ok hpt
            obtain ⟨b, c, hE, hbb, arr, fr, a1, a2, ⟨rest, a3, a3'⟩, a4, a5⟩ := S.at_ hg (by intro q; simp)
            have hblk : E.blk id = b := by simp [En.blk, hE]
            obtain ⟨p1, p2, p3⟩ := part?_some hp
            subst hl
            simp only [List.length_map] at p2
            subst p2
            obtain ⟨c1, c2⟩ := cells_at (w := w) (E := E) (c := c) (opn := opn) (ro := ro) hp a1 a3
            have hc1 : PP.cellsOf cty = 1 := by
              cases hse : sizeE cty with
              | none => rw [hse] at b2; cases b2
              | some sz =>
                rw [hse] at b2
                obtain ⟨i, hi, rfl⟩ := sizeE_ok hse
                have b2 : i.size = 1 := b2
                simp [Program.cellsOf, hi, b2]
            have h0 : s ≠ [] := by rintro rfl; simp at b3
            have hsh : w.shape? b = some (cty, arr.size) := by simp [World.shape?, a1]
            have hr := Go.Lib.run_unsafeString_row (P := PP) w pt it ty cty hup hc1 b arr.size hsh s h0 c1 (by omega) c2
            refine ⟨E, w.freeze ⟨b, 0, none⟩ s.length, ?_, En.le_refl E, ?_, trivial⟩
            · simp only [conc, cAddr, hblk]
              exact hr
            · have hlen : s.length ≠ 0 := by omega
              have hlt := (Array.getElem?_eq_some_iff.1 a1).1
              have hv := (Array.getElem?_eq_some_iff.1 a1).2
              obtain ⟨f1, f2⟩ := fr
              have hnew : ∃ fr', (w.freeze ⟨b, 0, none⟩ s.length).heap[b]? = some (.cells arr cty fr') := by
                unfold World.freeze
                rw [if_neg hlen]
                simp only [Array.getElem?_modify]
                rw [if_pos trivial, a1]
                exact ⟨_, rfl⟩
              obtain ⟨fr', hfr⟩ := hnew
              refine S.put hg hE hbb (by simp [World.freeze, hlen]) (fun k hk => ?_) (by simp [World.freeze, hlen]) (by simp [World.freeze, hlen]) (by simp [World.freeze, hlen]) (by intro q; simp) ⟨arr, fr', hfr, a2, ⟨rest, a3, a3'⟩, a4, fun h => by cases h⟩
              unfold World.freeze
              rw [if_neg hlen]
              simp only [Array.getElem?_modify]
              rw [if_neg (Ne.symm hk)]
    · trivial
  · exact ⟨Go.Lib.run_unsafeString_none (P := PP) w _ _ _ none, trivial⟩
  · trivial
theorem sliceData_ok {ts : Array TypeId} {ty : TypeId} {a : Addr} {n c : Nat} (hg : good E (.slice (some a) n c)) (h0 : 0 < n) (w : World) :
    (Builtin.unsafeSliceData_ ts ty #[conc E (.slice (some a) n c)]).run PP w = .ok (conc E (.pointer (some a))) w ∧ good E (.pointer (some a)) := by
  obtain ⟨c', h1, h2, _⟩ := slice_conc hg
  refine ⟨?_, hg.1⟩
  rw [h1]
  exact Go.Lib.run_unsafeSliceData_row (P := PP) w ts ty (cAddr E a) n c' (by omega)
theorem builtin_ok (S : Sim PP w0 E H w) {b : Builtin} {ts : List TypeId} {ty : TypeId} {cs : Array Bool} {args : List Value} (hg : ∀ v ∈ args, good E v) :
    NOk w0 E H w ((builtin b ⟨ts⟩ ty cs ⟨args.map (conc E)⟩).run PP w) (builtinE b ts ty args H) := by
  unfold builtinE
  split
  · rename_i st xt ts s x
    split
    · rename_i d i hx
      split
      · rename_i zs hz
        exact nok_v (appE_ok S rfl rfl (tab_ok hx).1 hz (hg s (by simp)) (hg x (by simp)))
      · trivial
    · trivial
  · rename_i st ts d x
    exact nok_v (copyE_ok S rfl (hg d (by simp)) (hg x (by simp)))
  · rename_i st ts x
    exact nok_v (vok_o fun v hv => len_ok S rfl hv)
  · rename_i st ts a n c
    split
    · rename_i e i hst
      cases hc : Nat.blt c HALF with
      | false => trivial
      | true =>
        rw [cond_true]
        rw [Nat.blt_eq] at hc
        obtain ⟨hu, _⟩ := tab_ok hst
        refine nok_v (r := .v _) ⟨?_, trivial⟩
        obtain ⟨c', h1, _, h3, _⟩ := slice_conc (hg (.slice a n c) (by simp))
        have h3 := h3 hc
        subst h3
        rw [List.map_cons, List.map_nil, h1]
        simp [Builtin.cap_, run_underlying hu, conc, goInt]
    · trivial
  · rename_i a n c
    cases hb : (Nat.blt 0 n && Nat.ble n c) with
    | false => trivial
    | true =>
      rw [cond_true]
      simp only [Bool.and_eq_true, Nat.blt_eq] at hb
      exact nok_v (r := .v _) (sliceData_ok (hg _ (by simp)) hb.1 w)
  · rename_i n c
    exact nok_v (r := .v _) ⟨rfl, trivial⟩
  · rename_i ts x n
    exact nok_v (ustr_ok S)
  · cases ha : allB afree args with
    | false => trivial
    | true =>
      rw [cond_true, afree_args ha]
      generalize hs : Builtin.min_ ⟨ts⟩ ty ⟨args⟩ = s
      refine nok_v (s := Builtin.min_ ⟨ts⟩ ty ⟨args⟩) ?_
      rw [hs]
      exact dflt_ok s
  · cases ha : allB afree args with
    | false => trivial
    | true =>
      rw [cond_true, afree_args ha]
      generalize hs : Builtin.max_ ⟨ts⟩ ty ⟨args⟩ = s
      refine nok_v (s := Builtin.max_ ⟨ts⟩ ty ⟨args⟩) ?_
      rw [hs]
      exact dflt_ok s
  · rename_i st ts x
    exact nok_v (clearE_ok S rfl (hg x (by simp)))
  · rename_i st ts m k
    split
    · rename_i H' hm
      obtain ⟨w', h1, h2⟩ := mapDel_ok (ts := ⟨st :: ts⟩) (ty := ty) S rfl hm
      exact nok_v (r := .w _ _) ⟨E, w', h1, En.le_refl E, h2, ⟨⟩⟩
    · trivial
  · trivial
end
end Go.Proofs.YtgjabfpkbcdkcaaGreatDoor
