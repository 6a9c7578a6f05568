/- The evaluator's calls are the model's, up to regions whose order is drawn. -/
import Derived.Test.YtgjabfpkbcdkcaaGreatDoorEr
namespace Go.Proofs.YtgjabfpkbcdkcaaGreatDoor
set_option linter.unusedVariables false
set_option linter.unusedSimpArgs false
section
variable {w0 : Base} {w w' : World} {E E' : En} {H H' : Hp} {F F' : Fr} {a : Act} {n : Nat}
variable {ext : FuncId → Option (List Value → Option Value)} {call dcall : FuncId → List Value → Hp → Option (Value × Hp)} {dr : List Oper → Bool} {fns : Nat → Option Func} {hook : FuncId → Option (List Value → Hp → Option (Value × Hp))}
noncomputable def res1 (F : Tr Value) (H : Hp) (r : ResultVar) : Option Value := match r with | .tmp t => some (opv1 (F.get t)) | .cell a t => loadE t (opv1 (F.get a)) H
def resS (tmps : Array Value) : ResultVar → Sem Value
  | .tmp t => pure (tmps.getD t undef)
  | .cell x t => do loadVar t (← asAddr (tmps.getD x undef))
theorem results_eq (fn : Func) (tmps : Array Value) : results fn tmps = (do
    let vs ← fn.results.mapM (resS tmps)
    pure (if h : vs.size = 1 then vs[0] else .tuple vs)) := rfl
theorem resE_cons (F : Tr Value) (H : Hp) (r : ResultVar) (l : List ResultVar) : resE F H (r :: l) = (match res1 F H r with | some v => consO v (resE F H l) | none => none) := by
  show (match res1 F H r with | some v => nf v fun v => consO v (resE F H l) | none => none) = _
  simp only [nf_eq]
theorem addr_eq {t : TypeId} {p : Value} (h : ∃ a, p = .pointer (some a)) : (do loadVar t (← asAddr p) : Sem Value) = Instr.loadAt t p := by
  obtain ⟨a, rfl⟩ := h
  rfl
theorem res1_ok (hF : FRel E F a) (S : Sim PP w0 E H w) {r : ResultVar} {v : Value} (h : res1 F.t H r = some v) :
    (resS a.tmps r).run PP w = .ok (conc E v) w ∧ good E v := by
  cases r with
  | tmp t =>
    simp only [res1, Option.some.injEq] at h
    subst h
    obtain ⟨h1, h2⟩ := hF.tmp t
    exact ⟨by simp only [resS, h1]; rfl, h2⟩
  | cell x t =>
    simp only [res1] at h
    obtain ⟨h1, h2⟩ := hF.tmp x
    simp only [resS, h1]
    have hp : ∃ q, conc E (opv1 (F.t.get x)) = .pointer (some q) := by
      unfold loadE at h
      split at h
      · rename_i id off hv
        exact ⟨_, by rw [hv]; rfl⟩
      · cases h
    rw [addr_eq hp]
    exact load_ok S h
theorem res_ok (hF : FRel E F a) (S : Sim PP w0 E H w) : ∀ (l : List ResultVar) (vs : List Value), resE F.t H l = some vs →
    (l.mapM (resS a.tmps)).run PP w = .ok (vs.map (conc E)) w ∧ ∀ v ∈ vs, good E v := by
  intro l
  induction l with
  | nil =>
    intro vs h
    have h : some [] = some vs := h
    obtain rfl := Option.some.inj h
    exact ⟨rfl, by simp⟩
  | cons r l ih =>
    intro vs h
    rw [resE_cons] at h
    cases h1 : res1 F.t H r with
    | none => rw [h1] at h; cases h
    | some v =>
      simp only [h1] at h
      cases h2 : resE F.t H l with
      | none => rw [h2] at h; cases h
      | some us =>
        rw [h2] at h
        have h : some (v :: us) = some vs := h
        obtain rfl := Option.some.inj h
        obtain ⟨r1, r2⟩ := res1_ok hF S h1
        obtain ⟨r3, r4⟩ := ih us h2
        refine ⟨?_, fun x hx => ?_⟩
        · simp only [List.mapM_cons, Sem.run_bind, r1, Result.andThen_ok, r3, List.map_cons]
          rfl
        · rcases List.mem_cons.1 hx with rfl | hx
          · exact r2
          · exact r4 x hx
theorem results_ok (hF : FRel E F a) (S : Sim PP w0 E H w) {fn : Func} {v : Value} {H1 : Hp} (h : retE (resE F.t H fn.results.toList) H = some (v, H1)) : (results fn a.tmps).run PP w = .ok (conc E v) w ∧ good E v ∧ H1 = H := by
  cases hr : resE F.t H fn.results.toList with
  | none => rw [hr] at h; cases h
  | some vs =>
    obtain ⟨r1, r2⟩ := res_ok hF S _ vs hr
    rw [hr] at h
    unfold retE at h
    split at h
    · rename_i u hu
      obtain rfl := Option.some.inj hu
      simp only [Option.some.injEq, Prod.mk.injEq] at h
      obtain ⟨rfl, rfl⟩ := h
      refine ⟨?_, r2 _ (by simp), rfl⟩
      rw [results_eq, Array.mapM_eq_mapM_toList]
      simp only [Sem.run_bind, Sem.run_map, r1]
      simp
    · rename_i us hne hu
      obtain rfl := Option.some.inj hu
      simp only [Option.some.injEq, Prod.mk.injEq] at h
      obtain ⟨rfl, rfl⟩ := h
      refine ⟨?_, goodA_iff.2 r2, rfl⟩
      rw [results_eq, Array.mapM_eq_mapM_toList]
      simp only [Sem.run_bind, Sem.run_map, r1]
      have hl : vs.length ≠ 1 := fun hl => by
        obtain ⟨u, rfl⟩ := List.length_eq_one_iff.1 hl
        exact hne u rfl
      have hc : conc E (.tuple ⟨vs⟩) = .tuple ⟨vs.map (conc E)⟩ := by simp [conc, concA_mk]
      rw [hc]
      simp [hl]
    · cases h
/-! ### a function's frame -/
theorem argsF_get : ∀ (l : List Value) (k : Nat) (t : Tr Value) (d : Nat), (argsF l k t).get d = if k ≤ d ∧ d < k + l.length then l[d - k]? else t.get d := by
  intro l
  induction l with
  | nil => intro k t d; rw [if_neg (by simp only [List.length_nil]; omega)]; rfl
  | cons v l ih =>
    intro k t d
    have : argsF (v :: l) k t = fT' (t.set k (some v)) fun t => argsF l (Nat.succ k) t := rfl
    rw [this, fT_eq, ih, Tr.get_set]
    simp only [List.length_cons, Nat.succ_eq_add_one]
    by_cases h1 : k + 1 ≤ d ∧ d < k + 1 + l.length
    · rw [if_pos h1, if_pos (by omega)]
      rw [show d - k = (d - (k + 1)) + 1 by omega, List.getElem?_cons_succ]
    · rw [if_neg h1]
      by_cases h2 : d = k
      · subst h2
        rw [if_pos rfl, if_pos (by omega)]
        simp
      · rw [if_neg h2, if_neg (by omega)]
theorem frel_args {args : List Value} (hg : ∀ v ∈ args, good E v) (m : Nat) :
    FRel E ⟨m, argsF args 0 .e, []⟩ { tmps := (⟨args.map (conc E)⟩ : Array Value) ++ Array.replicate (m - (⟨args.map (conc E)⟩ : Array Value).size) undef, defers := [] } := by
  refine ⟨by simp; omega, fun d => ?_, rfl, by simp⟩
  have hget : (argsF args 0 .e).get d = args[d]? := by
    rw [argsF_get]
    by_cases h : d < args.length
    · rw [if_pos (by omega)]; rfl
    · rw [if_neg (by omega), List.getElem?_eq_none (by omega)]; rfl
  show Array.getD _ d undef = conc E (opv1 ((argsF args 0 .e).get d)) ∧ good E (opv1 ((argsF args 0 .e).get d))
  rw [hget, Array.getD_eq_getD_getElem?, Array.getElem?_append]
  by_cases h : d < args.length
  · rw [if_pos (by simpa using h)]
    have : args[d]? = some args[d] := List.getElem?_eq_getElem h
    rw [this]
    exact ⟨by simp [h, opv1], hg _ (List.getElem_mem h)⟩
  · rw [if_neg (by simpa using h), List.getElem?_eq_none (by omega)]
    refine ⟨?_, ⟨⟩⟩
    rw [Array.getElem?_replicate]
    split <;> rfl
/-- a deferred call does what the evaluator says -/
def DCallsOk (w0 : Base) (dcall : FuncId → List Value → Hp → Option (Value × Hp)) : Prop :=
  ∀ f args H v H', dcall f args H = some (v, H') → ∀ E w, Sim PP w0 E H w → (∀ v ∈ args, good E v) →
    (callFunc f ⟨args.map (conc E)⟩).run PP w = .ok (.enter f ⟨args.map (conc E)⟩) w ∧
    ∀ u, CallsD PP f ⟨args.map (conc E)⟩ u w fun e u' w' => u' = u ∧ ∃ E', e = .returned (conc E' v) ∧ E.le E' ∧ Sim PP w0 E' H' w' ∧ good E' v
theorem dfE_cons (d : Dc) (l : List Dc) (H : Hp) : dfE dcall (d :: l) H = (match dcall d.1 (app d.2.1 d.2.2) H with | some (_, H') => dfE dcall l H' | none => none) := rfl
theorem leaves_ok (hd : DCallsOk w0 dcall) {fn : Func} {tmps : Array Value} {R : Ending → World → Prop} {H2 : Hp} : ∀ (l : List Dc) (H : Hp) (E : En) (w : World), dfE dcall l H = some H2 → Sim PP w0 E H w → (∀ x ∈ l, dgood E x) →
    (∀ E' w', E.le E' → Sim PP w0 E' H2 w' → ∃ v, (results fn tmps).run PP w' = .ok v w' ∧ R (.returned v) w') → Leaves PP fn tmps R (l.map (dconc E)) .returning w := by
  intro l
  induction l with
  | nil =>
    intro H E w h S _ hR
    have h : some H = some H2 := h
    obtain rfl := Option.some.inj h
    exact hR E w (En.le_refl E) S
  | cons d l ih =>
    intro H E w h S hg hR
    rw [dfE_cons, app_eq] at h
    cases hcl : dcall d.1 (d.2.1 ++ d.2.2) H with
    | none => rw [hcl] at h; cases h
    | some y =>
      obtain ⟨v, H1⟩ := y
      simp only [hcl] at h
      obtain ⟨g1, g2⟩ := hg d (by simp)
      obtain ⟨r1, r2⟩ := hd _ _ _ _ _ hcl E w S (fun x hx => by
        rcases List.mem_append.1 hx with hx | hx
        · exact g1 x hx
        · exact g2 x hx)
      refine ⟨by simp, .func d.1, ⟨d.2.2.map (conc E)⟩, d.1, ⟨(d.2.1 ++ d.2.2).map (conc E)⟩, rfl, ?_, ?_⟩
      · have : invoke (dconc E d).target (dconc E d).args = callFunc d.1 ⟨(d.2.1 ++ d.2.2).map (conc E)⟩ := by
          show callFunc d.1 ((⟨d.2.1.map (conc E)⟩ : Array Value) ++ (⟨d.2.2.map (conc E)⟩ : Array Value)) = _
          simp
        rw [this]
        exact r1
      · refine (r2 .returning).mono fun e u' w' he => ?_
        obtain ⟨rfl, E', rfl, e1, e2, e3⟩ := he
        show Leaves PP fn tmps R (l.map (dconc E)) .returning w'
        have hm : l.map (dconc E) = l.map (dconc E') := List.map_congr_left fun x hx => ((dconc_le e1 (hg x (by simp [hx]))).1).symm
        rw [hm]
        exact ih H1 E' w' h e2 (fun x hx => (dconc_le e1 (hg x (by simp [hx]))).2) fun E'' w'' f1 f2 => hR E'' w'' (En.le_trans e1 f1) f2
/-- the functions that are evaluated are the program's -/
def FnsOk (n : Nat) (dr : List Oper → Bool) (fns : Nat → Option Func) : Prop :=
  ∀ f fn c, fns f = some fn → fn.body = some c → PP.funcs[f]? = some fn ∧ (fn.name == "runtime.NumGoroutine") = false ∧ codeOk dr n c = true
theorem enters {f : FuncId} {fn : Func} {c : Code} (h1 : PP.funcs[f]? = some fn) (h2 : (fn.name == "runtime.NumGoroutine") = false) (h3 : fn.body = some c) (args : Array Value) (w : World) :
    (callFunc f args).run PP w = .ok (.enter f args) w := by
  generalize PP = P at h1
  have h2' : ¬ fn.name = "runtime.NumGoroutine" := by simpa using h2
  simp [callFunc, h1, h2', h3]
theorem body_ok (hm : PP.follows .mixedOrders = true) (hn : n ≤ PP.globals.size) (hfn : FnsOk n dr fns) (hc : CallsOk w0 call) (hx : ExtOk ext) (hd : DrawnOk w0 n dr ext call) (hdc : DCallsOk w0 dcall) :
    CallsOk w0 (bodyE ext fns call dcall) := by
  intro f args H v H' h E w S hg
  unfold bodyE at h
  split at h
  · cases h
  · rename_i fn hf
    split at h
    · cases h
    · rename_i c hb
      obtain ⟨p1, p2, p3⟩ := hfn f fn c hf hb
      refine ⟨enters p1 p2 hb _ w, ?_⟩
      refine calls_of_wp_defers p1 hb ?_
      have hfr := frel_args hg fn.ntmps
      cases hcd : codeE ext call c ⟨fn.ntmps, argsF args 0 .e, []⟩ H with
      | none => rw [hcd] at h; cases h
      | some y =>
        obtain ⟨ex, F1, H1⟩ := y
        rw [hcd] at h
        have hw := code_ok hm hn hc hx hd c p3 _ H _ hcd E _ w hfr S
        have hrest : (∀ id, ex ≠ .exit id) ∧ (match dfE dcall F1.df H1 with | none => none | some H2 => retE (resE F1.t H2 fn.results.toList) H2) = some (v, H') := by
          cases ex with
          | exit id => cases h
          | normal => exact ⟨fun id e => (by cases e), h⟩
          | ret => exact ⟨fun id e => (by cases e), h⟩
        obtain ⟨hne, hrest⟩ := hrest
        refine wp_mono hw fun e a1 w1 hq => ?_
        obtain ⟨he, E1, e1, e2, e3⟩ := hq
        cases hdf : dfE dcall F1.df H1 with
        | none => rw [hdf] at hrest; cases hrest
        | some H2 =>
          simp only [hdf] at hrest
          have hl : Leaves PP fn a1.tmps (fun e w' => ∃ E', e = .returned (conc E' v) ∧ E.le E' ∧ Sim PP w0 E' H' w' ∧ good E' v) a1.defers .returning w1 := by
            rw [e2.df]
            refine leaves_ok hdc F1.df H1 E1 w1 hdf e3 e2.dg fun E2 w2 f1 f2 => ?_
            obtain ⟨r1, r2, r3⟩ := results_ok (e2.le f1) f2 hrest
            subst r3
            exact ⟨_, r1, E2, rfl, En.le_trans e1 f1, f2, r2⟩
          cases ex with
          | exit id => exact absurd rfl (hne id)
          | normal => subst he; exact hl
          | ret => subst he; exact hl
theorem none_ok : DCallsOk w0 (fun _ _ _ => none) := fun f args H v H' h => by cases h
/-- a deferred call whose function defers nothing -/
theorem dbody_ok (hm : PP.follows .mixedOrders = true) (hn : n ≤ PP.globals.size) (hfn : FnsOk n dr fns) (hc : CallsOk w0 call) (hx : ExtOk ext) (hd : DrawnOk w0 n dr ext call) :
    DCallsOk w0 (fun g a => bodyE ext fns call (fun _ _ _ => none) g a) := by
  intro f args H v H' h E w S hg
  simp only at h
  unfold bodyE at h
  split at h
  · cases h
  · rename_i fn hf
    split at h
    · cases h
    · rename_i c hb
      obtain ⟨p1, p2, p3⟩ := hfn f fn c hf hb
      refine ⟨enters p1 p2 hb _ w, fun u => ?_⟩
      refine callsD_of_wp p1 hb ?_
      have hfr := frel_args hg fn.ntmps
      cases hcd : codeE ext call c ⟨fn.ntmps, argsF args 0 .e, []⟩ H with
      | none => rw [hcd] at h; cases h
      | some y =>
        obtain ⟨ex, F1, H1⟩ := y
        rw [hcd] at h
        have hw := code_ok hm hn hc hx hd c p3 _ H _ hcd E _ w hfr S
        have hrest : (∀ id, ex ≠ .exit id) ∧ (match dfE (fun _ _ _ => none) F1.df H1 with | none => none | some H2 => retE (resE F1.t H2 fn.results.toList) H2) = some (v, H') := by
          cases ex with
          | exit id => cases h
          | normal => exact ⟨fun id e => (by cases e), h⟩
          | ret => exact ⟨fun id e => (by cases e), h⟩
        obtain ⟨hne, hrest⟩ := hrest
        refine wp_mono hw fun e a1 w1 hq => ?_
        obtain ⟨he, E1, e1, e2, e3⟩ := hq
        have hnil : F1.df = [] := by
          cases hdf : F1.df with
          | nil => rfl
          | cons d l => rw [hdf, dfE_cons] at hrest; cases hrest
        rw [hnil] at hrest
        have hrest : retE (resE F1.t H1 fn.results.toList) H1 = some (v, H') := hrest
        obtain ⟨r1, r2, r3⟩ := results_ok e2 e3 hrest
        subst r3
        have ha : a1.defers = [] := by rw [e2.df, hnil]; rfl
        have hres : ∃ v', (results fn a1.tmps).run PP w1 = .ok v' w1 ∧ ∃ E', Ending.returned v' = .returned (conc E' v) ∧ E.le E' ∧ Sim PP w0 E' H' w1 ∧ good E' v := ⟨_, r1, E1, rfl, e1, e3, r2⟩
        cases ex with
        | exit id => exact absurd rfl (hne id)
        | normal => subst he; exact ⟨ha, hres⟩
        | ret => subst he; exact ⟨ha, hres⟩
/-- what is put in a function's place does what the function does -/
def HooksOk (w0 : Base) (hook : FuncId → Option (List Value → Hp → Option (Value × Hp))) : Prop :=
  ∀ f h args H v H', hook f = some h → h args H = some (v, H') → ∀ E w, Sim PP w0 E H w → (∀ v ∈ args, good E v) →
    (callFunc f ⟨args.map (conc E)⟩).run PP w = .ok (.enter f ⟨args.map (conc E)⟩) w ∧
    Calls PP f ⟨args.map (conc E)⟩ w fun e w' => ∃ E', e = .returned (conc E' v) ∧ E.le E' ∧ Sim PP w0 E' H' w' ∧ good E' v
theorem callE_ok (hm : PP.follows .mixedOrders = true) (hn : n ≤ PP.globals.size) (hfn : FnsOk n dr fns) (hx : ExtOk ext) (hh : ∀ w0, HooksOk w0 hook) (hd : ∀ call, (∀ w0, CallsOk w0 call) → ∀ w0, DrawnOk w0 n dr ext call) :
    ∀ k w0, CallsOk w0 (callE ext fns hook k) := by
  intro k
  induction k with
  | zero => intro w0 f args H v H' h; cases h
  | succ k ih =>
    intro w0 f args H v H' h
    have he : callE ext fns hook (k + 1) f args H = (match hook f with
      | some h => h args H
      | none => bodyE ext fns (callE ext fns hook k) (fun g a => bodyE ext fns (callE ext fns hook k) (fun _ _ _ => none) g a) f args H) := rfl
    rw [he] at h
    split at h
    · rename_i q hq
      exact hh w0 f q args H v H' hq h
    · exact body_ok hm hn hfn (ih w0) hx (hd _ ih w0) (dbody_ok hm hn hfn (ih w0) hx (hd _ ih w0)) f args H v H' h
end
end Go.Proofs.YtgjabfpkbcdkcaaGreatDoor
