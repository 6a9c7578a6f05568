/- The functions that the evaluator runs; the library's own. -/
import Derived.Test.YtgjabfpkbcdkcaaGreatDoorEza
namespace Go.Proofs.YtgjabfpkbcdkcaaGreatDoor
set_option linter.unusedVariables false
set_option linter.unusedSimpArgs false
noncomputable def okFn (n : Nat) (fn : Func) : Bool := match fn.body with | some c => cond (codeOk (fun _ => true) n c) (!(fn.name == "runtime.NumGoroutine")) false | none => true
/-- all functions but those of a mask -/
noncomputable def okAll (n mask : Nat) (l : List Func) : Nat → Bool :=
  List.rec (motive := fun _ => Nat → Bool) (fun _ => true) (fun fn _ ih i => cond (cond (Nat.beq (Nat.land (Nat.shiftRight mask i) 1) 1) true (okFn n fn)) (fN (Nat.succ i) ih) false) l
noncomputable def fnsM (mask : Nat) (f : Nat) : Option Func := cond (Nat.beq (Nat.land (Nat.shiftRight mask f) 1) 1) none (fT.get f)
section
variable {n mask : Nat}
theorem okAll_get : ∀ (l : List Func) (i : Nat), okAll n mask l i = true → ∀ (k : Nat) fn, l[k]? = some fn → mask.testBit (i + k) = true ∨ okFn n fn = true := by
  intro l
  induction l with
  | nil => intro i _ k fn h; simp at h
  | cons a l ih =>
    intro i h k fn hk
    have h : cond (cond (Nat.beq (Nat.land (Nat.shiftRight mask i) 1) 1) true (okFn n a)) (fN (Nat.succ i) fun i => okAll n mask l i) false = true := h
    rw [bit1, fN_eq] at h
    cases hb : cond (mask.testBit i) true (okFn n a) with
    | false => rw [hb] at h; cases h
    | true =>
      rw [hb, cond_true] at h
      cases k with
      | zero =>
        simp only [List.getElem?_cons_zero, Option.some.injEq] at hk
        subst hk
        cases ht : mask.testBit i with
        | true => exact .inl rfl
        | false => rw [ht, cond_false] at hb; exact .inr hb
      | succ k =>
        rw [List.getElem?_cons_succ] at hk
        have := ih (Nat.succ i) h k fn hk
        rwa [show Nat.succ i + k = i + (k + 1) by omega] at this
theorem fns_ok (h : okAll n mask PP.funcs.toList 0 = true) : FnsOk n (fun _ => true) (fnsM mask) := by
  intro f fn c hf hb
  unfold fnsM at hf
  rw [bit1] at hf
  cases hm : mask.testBit f with
  | true => rw [hm] at hf; cases hf
  | false =>
    rw [hm, cond_false] at hf
    have hg := mkT_get _ _ _ _ _ _ hf
    rw [nth_eq, Nat.one_mul, Nat.add_zero, Array.getElem?_toList] at hg
    have hg' : PP.funcs.toList[f]? = some fn := by rw [Array.getElem?_toList]; exact hg
    have := okAll_get _ 0 h f fn hg'
    rw [Nat.zero_add, hm] at this
    have hk := this.resolve_left (by simp)
    unfold okFn at hk
    rw [hb] at hk
    simp only at hk
    cases hc : codeOk (fun _ => true) n c with
    | false => rw [hc] at hk; cases hk
    | true =>
      rw [hc, cond_true] at hk
      exact ⟨hg, by simpa using hk, rfl⟩
/-- a function of the library's that asks nothing but the program -/
noncomputable def extPure (e : Array Value → Sem Value) (a : List Value) : Option Value := cond (allB afree a) (match pureOf PP (e ⟨a⟩) with | some v => cond (afree v) (some v) none | none => none) none
def extSame (a : List Value) : Option Value := match a with | [x] => some x | _ => none
/-- what is known of a function without a body -/
structure IsExt (f : FuncId) (e : Array Value → Sem Value) : Prop where
  some : (PP.funcs[f]?).isSome = true
  name : (((PP.funcs[f]?).getD default).name == "runtime.NumGoroutine") = false
  none : ((PP.funcs[f]?).getD default).body.isNone = true
  next : Extern.findNext ((PP.funcs[f]?).getD default) = .none
  find : Extern.find ((PP.funcs[f]?).getD default) = .some e
theorem IsExt.run {f : FuncId} {e : Array Value → Sem Value} (h : IsExt f e) (args : Array Value) (w : World) : (callFunc f args).run PP w = ((e args).run PP w).andThen fun v w' => .ok (.value v) w' := by
  obtain ⟨fn, hf⟩ := Option.isSome_iff_exists.1 h.some
  have hd : (PP.funcs[f]?).getD default = fn := by rw [hf]; rfl
  have h2 := h.name
  have h3 := h.none
  have h4 := h.next
  have h5 := h.find
  rw [hd] at h2 h3 h4 h5
  exact run_callFunc_extern hf h2 h3 h4 h5 args w
theorem extPure_ok {f : FuncId} {e : Array Value → Sem Value} (h : IsExt f e) {args : List Value} {v : Value} (hv : extPure e args = some v) (E : En) (w : World) :
    (callFunc f ⟨args.map (conc E)⟩).run PP w = .ok (.value (conc E v)) w ∧ good E v := by
  unfold extPure at hv
  cases ha : allB afree args with
  | false => rw [ha] at hv; cases hv
  | true =>
    rw [ha, cond_true] at hv
    rw [h.run, afree_args ha]
    revert hv
    generalize e ⟨args⟩ = s
    intro hv
    cases hp : pureOf PP s with
    | none => rw [hp] at hv; cases hv
    | some u =>
      simp only [hp] at hv
      cases hu : afree u with
      | false => rw [hu] at hv; cases hv
      | true =>
        rw [hu, cond_true] at hv
        obtain rfl := Option.some.inj hv
        obtain ⟨c1, c2⟩ := afree_ok E hu
        refine ⟨?_, c2⟩
        rw [pureOf_ok hp w, c1]
        rfl
theorem extSame_ok {f : FuncId} (h : IsExt f Extern.AbiNoEscape.same) {args : List Value} {v : Value} (hv : extSame args = some v) (E : En) (w : World) (hg : ∀ v ∈ args, good E v) :
    (callFunc f ⟨args.map (conc E)⟩).run PP w = .ok (.value (conc E v)) w ∧ good E v := by
  unfold extSame at hv
  split at hv
  · obtain rfl := Option.some.inj hv
    refine ⟨?_, hg _ (by simp)⟩
    rw [h.run]
    rfl
  · cases hv
end
end Go.Proofs.YtgjabfpkbcdkcaaGreatDoor
