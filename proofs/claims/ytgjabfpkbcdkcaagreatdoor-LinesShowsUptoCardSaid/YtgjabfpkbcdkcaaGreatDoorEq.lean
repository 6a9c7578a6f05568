/- The evaluator's frames, one operation in a frame, regions in their order. -/
import Derived.Test.YtgjabfpkbcdkcaaGreatDoorEw
namespace Go.Proofs.YtgjabfpkbcdkcaaGreatDoor
set_option linter.unusedVariables false
set_option linter.unusedSimpArgs false
def dconc (E : En) (x : Dc) : Deferred := ⟨.fn (.func x.1) ⟨x.2.2.map (conc E)⟩, ⟨x.2.1.map (conc E)⟩⟩
def dgood (E : En) (x : Dc) : Prop := (∀ v ∈ x.2.1, good E v) ∧ ∀ v ∈ x.2.2, good E v
/-- the evaluator's frame is the model's -/
structure FRel (E : En) (F : Fr) (a : Act) : Prop where
  sz : F.sz ≤ a.tmps.size
  tmp : ∀ d, a.tmps.getD d undef = conc E (opv1 (F.t.get d)) ∧ good E (opv1 (F.t.get d))
  df : a.defers = F.df.map (dconc E)
  dg : ∀ x ∈ F.df, dgood E x
/-- what an operation defers is put down -/
def dfA (a : Act) (E : En) (ds : Option Dc) : Act := match ds with | none => a | some x => { a with defers := dconc E x :: a.defers }
def dsGood (E : En) (ds : Option Dc) : Prop := match ds with | none => True | some x => dgood E x
section
variable {w0 : Base} {w w' : World} {E E' : En} {H H' : Hp} {F F' : Fr} {a : Act} {n : Nat}
theorem conc_undef (E : En) : conc E undef = undef ∧ good E undef := ⟨rfl, ⟨⟩⟩
theorem dconc_le (hE : E.le E') {x : Dc} (h : dgood E x) : dconc E' x = dconc E x ∧ dgood E' x := by
  refine ⟨?_, fun v hv => (conc_le hE v (h.1 v hv)).2, fun v hv => (conc_le hE v (h.2 v hv)).2⟩
  unfold dconc
  rw [map_conc_le hE h.1, map_conc_le hE h.2]
theorem FRel.le (h : FRel E F a) (hE : E.le E') : FRel E' F a := by
  refine ⟨h.sz, fun d => ?_, ?_, fun x hx => (dconc_le hE (h.dg x hx)).2⟩
  · obtain ⟨h1, h2⟩ := h.tmp d
    obtain ⟨c1, c2⟩ := conc_le hE _ h2
    exact ⟨by rw [h1, c1], c2⟩
  · rw [h.df]
    exact List.map_congr_left fun x hx => ((dconc_le hE (h.dg x hx)).1).symm
theorem Fr.put_some {F F' : Fr} {dst : Option Tmp} {v : Value} (h : F.put dst v = some F') :
    (dst = none ∧ F' = F) ∨ ∃ d, dst = some d ∧ d < F.sz ∧ F'.sz = F.sz ∧ F'.df = F.df ∧ ∀ k, F'.t.get k = if k = d then some v else F.t.get k := by
  obtain ⟨sz, t, df⟩ := F
  unfold Fr.put at h
  cases dst with
  | none => simp only [Option.some.injEq] at h; exact .inl ⟨rfl, h.symm⟩
  | some d =>
    simp only [nf_eq, fT_eq] at h
    cases hb : Nat.blt d sz with
    | false => rw [hb] at h; cases h
    | true =>
      rw [hb, cond_true, Option.some.injEq] at h
      rw [Nat.blt_eq] at hb
      subst h
      exact .inr ⟨d, rfl, hb, rfl, rfl, fun k => Tr.get_set _ _ _ _⟩
theorem put_getD (a : Act) {d : Nat} (hd : d < a.tmps.size) (v : Value) (k : Nat) : (a.put (some d) v).tmps.getD k undef = if k = d then v else a.tmps.getD k undef := by
  simp only [Act.put, Array.getD_eq_getD_getElem?, Array.getElem?_setIfInBounds]
  by_cases h : d = k
  · subst h; simp [hd]
  · rw [if_neg h, if_neg (Ne.symm h)]
theorem put_size (a : Act) (dst : Option Tmp) (v : Value) : (a.put dst v).tmps.size = a.tmps.size := by cases dst <;> simp [Act.put]
theorem put_defers (a : Act) (dst : Option Tmp) (v : Value) : (a.put dst v).defers = a.defers := by cases dst <;> rfl
theorem FRel.put (h : FRel E F a) {dst : Option Tmp} {v : Value} (hp : F.put dst v = some F') (hg : good E v) : FRel E F' (a.put dst (conc E v)) := by
  rcases Fr.put_some hp with ⟨rfl, rfl⟩ | ⟨d, rfl, hd, h1, h2, h3⟩
  · exact h
  · refine ⟨by rw [put_size, h1]; exact h.sz, fun k => ?_, by rw [put_defers, h2]; exact h.df, by rw [h2]; exact h.dg⟩
    rw [put_getD a (Nat.lt_of_lt_of_le hd h.sz), h3]
    by_cases hk : k = d
    · rw [if_pos hk, if_pos hk]; exact ⟨rfl, hg⟩
    · rw [if_neg hk, if_neg hk]; exact h.tmp k
theorem FRel.defer (h : FRel E F a) {ds : Option Dc} (hx : dsGood E ds) : FRel E (F.defer ds) (dfA a E ds) := by
  obtain ⟨sz, t, df⟩ := F
  cases ds with
  | none => exact h
  | some x =>
    refine ⟨h.sz, h.tmp, ?_, ?_⟩
    · show dconc E x :: a.defers = (x :: df).map (dconc E)
      rw [h.df]
      rfl
    · intro y hy
      rcases List.mem_cons.1 hy with rfl | hy
      · exact hx
      · exact h.dg y hy
/-! ### operands -/
noncomputable def opdOk (n : Nat) (x : Operand) : Bool := match x with | .tmp _ => true | .const v => afree v | .global g => Nat.blt g n | .func _ => true
noncomputable def operOk (n : Nat) (o : Oper) : Bool := allB (opdOk n) (opsL o.op)
theorem opd_ok (hn : n ≤ PP.globals.size) (S : Sim PP w0 E H w) {F : Tr Value} {x : Operand} (hx : opdOk n x = true) (ht : ∀ d, x = .tmp d → a.tmps.getD d undef = conc E (opv1 (F.get d)) ∧ good E (opv1 (F.get d))) :
    a.eval x = conc E (opv F x) ∧ good E (opv F x) := by
  cases x with
  | tmp d => exact ht d rfl
  | const v =>
    obtain ⟨c1, c2⟩ := afree_ok E hx
    exact ⟨c1.symm, c2⟩
  | global g =>
    have hg : g < n := by simpa [opdOk, Nat.blt_eq] using hx
    have := S.glob g (Nat.lt_of_lt_of_le hg hn)
    exact ⟨by simp [Act.eval, opv, conc, cAddr, En.blk, this], by simp [opv, good, this]⟩
  | func f => exact ⟨by simp [Act.eval, opv, conc_func], by simp [opv, good, goodA, goodL]⟩
theorem FRel.opd (hn : n ≤ PP.globals.size) (S : Sim PP w0 E H w) (h : FRel E F a) {o : Oper} (ho : operOk n o = true) : Opd E F.t a.eval o.op :=
  fun x hx => opd_ok hn S (allB_iff.1 ho x hx) fun d _ => h.tmp d
/-! ### one operation -/
/-- what a called function does is what the evaluator says -/
def CallsOk (w0 : Base) (call : FuncId → List Value → Hp → Option (Value × Hp)) : Prop :=
  ∀ f args H v H', call f args H = some (v, H') → ∀ E w, Sim PP w0 E H w → (∀ v ∈ args, good E v) →
    (callFunc f ⟨args.map (conc E)⟩).run PP w = .ok (.enter f ⟨args.map (conc E)⟩) w ∧
    Calls PP f ⟨args.map (conc E)⟩ w fun e w' => ∃ E', e = .returned (conc E' v) ∧ E.le E' ∧ Sim PP w0 E' H' w' ∧ good E' v
/-- .. of the library's own -/
def ExtOk (ext : FuncId → Option (List Value → Option Value)) : Prop :=
  ∀ f g args v, ext f = some g → g args = some v → ∀ E w, (∀ v ∈ args, good E v) → (callFunc f ⟨args.map (conc E)⟩).run PP w = .ok (.value (conc E v)) w ∧ good E v
section
variable {ext : FuncId → Option (List Value → Option Value)} {call : FuncId → List Value → Hp → Option (Value × Hp)}
noncomputable def opE (ext : FuncId → Option (List Value → Option Value)) (call : FuncId → List Value → Hp → Option (Value × Hp)) (o : Oper) (F : Tr Value) (H : Hp) : Option (Value × Hp × Option Dc) :=
  match evalOp o.op o.type F H with
    | .v x => some (x, H, none)
    | .w x H' => fH H' fun H' => some (x, H', none)
    | .en f args => enE ext call f args H
    | .df f a c => some (undef, H, some (f, a, c))
    | .no => none
theorem stepE_eq (ops : List Oper) (o : Oper) (F : Tr Value) (H : Hp) : stepE ext call ops o F H = cond (wantE ops o F) (opE ext call o F H) (some (undef, H, none)) := rfl
theorem oper_ok (hc : CallsOk w0 call) (hx : ExtOk ext) (S : Sim PP w0 E H w) {F : Tr Value} {o : Oper} (hρ : Opd E F a.eval o.op) {v : Value} {ds : Option Dc} (h : opE ext call o F H = some (v, H', ds))
    {K : Act → World → Prop} {Q : Exit → Act → World → Prop} (hK : ∀ E' w', E.le E' → Sim PP w0 E' H' w' → good E' v → dsGood E' ds → K ((dfA a E' ds).put o.dst (conc E' v)) w') : o.wp PP a w K Q := by
  have hop := evalOp_ok S hρ
  unfold Oper.wp
  unfold opE at h
  split at h
  · rename_i x hv
    rw [hv] at hop
    simp only [Option.some.injEq, Prod.mk.injEq] at h
    obtain ⟨rfl, rfl, rfl⟩ := h
    rw [hop.1]
    exact hK E w (En.le_refl E) S hop.2 trivial
  · rename_i x H1 hv
    rw [hv] at hop
    rw [fH_eq] at h
    simp only [Option.some.injEq, Prod.mk.injEq] at h
    obtain ⟨rfl, rfl, rfl⟩ := h
    obtain ⟨E', w', hr, h1, h2, h3⟩ := hop
    have hk := hK E' w' h1 h2 h3 trivial
    rcases hr with hr | ⟨hr, rfl⟩
    · rw [hr]; exact hk
    · rw [hr]; exact hk
  · rename_i f args hv
    rw [hv] at hop
    obtain ⟨h1, h2⟩ := hop
    unfold enE at h
    split at h
    · rename_i g hg
      split at h
      · rename_i x hgx
        simp only [Option.some.injEq, Prod.mk.injEq] at h
        obtain ⟨rfl, rfl, rfl⟩ := h
        obtain ⟨r1, r2⟩ := hx f g args _ hg hgx E w h2
        rw [h1, r1]
        exact hK E w (En.le_refl E) S r2 trivial
      · cases h
    · split at h
      · rename_i x H1 hcl
        simp only [Option.some.injEq, Prod.mk.injEq] at h
        obtain ⟨rfl, rfl, rfl⟩ := h
        obtain ⟨r1, r2⟩ := hc f args H _ _ hcl E w S h2
        rw [h1, r1, Oper.upon_enter]
        refine r2.mono fun e w'' he => ?_
        obtain ⟨E', rfl, e1, e2, e3⟩ := he
        exact hK E' w'' e1 e2 e3 trivial
      · cases h
  · rename_i f x c hv
    rw [hv] at hop
    simp only [Option.some.injEq, Prod.mk.injEq] at h
    obtain ⟨rfl, rfl, rfl⟩ := h
    rw [hop.1]
    exact hK E w (En.le_refl E) S ⟨⟩ hop.2
  · cases h
/-! ### guards -/
theorem yield_ok {ops : Array Oper} {F : Tr Value} {j : Nat} {b : Bool} (h : yieldL ops.toList F j = some b) (ht : ∀ o d, ops[j]? = some o → o.dst = some d → a.tmps.getD d undef = conc E (opv1 (F.get d))) : yielded ops a.tmps j = some b := by
  unfold yieldL at h
  rw [nth_eq, Array.getElem?_toList] at h
  cases ho : ops[j]? with
  | none => rw [ho] at h; cases h
  | some o =>
    simp only [ho] at h
    cases hd : o.dst with
    | none => rw [hd] at h; cases h
    | some d =>
      simp only [hd] at h
      cases hf : F.get d with
      | none => rw [hf] at h; cases h
      | some v =>
        have ht := ht o d ho hd
        rw [hf] at h ht
        cases v with
        | bool q =>
          simp only [Option.some.injEq] at h
          subst h
          simp only [opv1, conc] at ht
          have : a.tmps[d]? = some (.bool q) := by
            rw [Array.getD_eq_getD_getElem?] at ht
            cases hq : a.tmps[d]? with
            | none => rw [hq] at ht; cases ht
            | some u => rw [hq] at ht; simp only [Option.getD_some] at ht; rw [ht]
          simp [yielded, ho, hd, this]
        | _ => cases h
theorem yield_none {ops : Array Oper} {F : Tr Value} {j : Nat} (h : yieldL ops.toList F j = none) (ht : ∀ o d, ops[j]? = some o → o.dst = some d → a.tmps.getD d undef = conc E (opv1 (F.get d))) : yielded ops a.tmps j = none := by
  cases hy : yielded ops a.tmps j with
  | none => rfl
  | some b =>
    exfalso
    unfold yielded at hy
    cases ho : ops[j]? with
    | none => rw [ho] at hy; cases hy
    | some o =>
      cases hd : o.dst with
      | none => simp [ho, hd] at hy
      | some d =>
        have ht := ht o d ho hd
        unfold yieldL at h
        rw [nth_eq, Array.getElem?_toList, ho] at h
        simp only [hd] at h
        simp only [ho, hd, Option.bind_some] at hy
        cases hq : a.tmps[d]? with
        | none => rw [hq] at hy; cases hy
        | some u =>
          rw [Array.getD_eq_getD_getElem?, hq, Option.getD_some] at ht
          rw [hq] at hy
          cases hf : F.get d with
          | none =>
            rw [hf] at ht
            subst ht
            cases hy
          | some v =>
            rw [hf] at ht h
            subst ht
            cases v with
            | bool q => cases h
            | pointer x => cases x <;> cases hy
            | slice x _ _ => cases x <;> cases hy
            | map x => cases x <;> cases hy
            | chan x => cases x <;> cases hy
            | func x y z => cases x <;> cases hy
            | _ => cases hy
theorem want_ok {ops : Array Oper} {o : Oper} {F : Tr Value} (ht : ∀ j b o' d, o.guard = some (j, b) → ops[j]? = some o' → o'.dst = some d → a.tmps.getD d undef = conc E (opv1 (F.get d))) :
    Region.wanted o (yielded ops a.tmps) = wantE ops.toList o F := by
  unfold Region.wanted wantE
  cases hg : o.guard with
  | none => rfl
  | some y =>
    obtain ⟨j, want⟩ := y
    simp only
    cases hy : yieldL ops.toList F j with
    | none => rw [yield_none (E := E) hy (fun o' d => ht j want o' d hg)]; rfl
    | some b => rw [yield_ok (E := E) hy (fun o' d => ht j want o' d hg)]; rfl
/-! ### an operation of a region, all of whose temporaries are known -/
theorem step_ok (hn : n ≤ PP.globals.size) (hc : CallsOk w0 call) (hx : ExtOk ext) (S : Sim PP w0 E H w) (hF : FRel E F a) {ops : Array Oper} {i : Nat} {o : Oper} (hi : ops[i]? = some o) (ho : operOk n o = true)
    {v : Value} {ds : Option Dc} (h : stepE ext call ops.toList o F.t H = some (v, H', ds)) (hp : (F.defer ds).put o.dst v = some F') {K : Act → World → Prop} {Q : Exit → Act → World → Prop}
    (hK : ∀ E' a' w', E.le E' → FRel E' F' a' → Sim PP w0 E' H' w' → K a' w') : wpOp PP ops Q i K a w := by
  unfold wpOp
  simp only [hi]
  rw [want_ok (E := E) (F := F.t) fun j b o' d _ _ _ => (hF.tmp d).1]
  rw [stepE_eq] at h
  cases hw : wantE ops.toList o F.t with
  | false =>
    rw [hw, cond_false] at h
    simp only [Option.some.injEq, Prod.mk.injEq] at h
    obtain ⟨rfl, rfl, rfl⟩ := h
    rw [if_neg (by simp)]
    exact hK E _ w (En.le_refl E) (hF.put hp ⟨⟩) S
  | true =>
    rw [hw, cond_true] at h
    rw [if_pos rfl]
    refine .inl (oper_ok hc hx S (hF.opd hn S ho) h fun E' w' e1 e2 e3 e4 => ?_)
    exact hK E' _ w' e1 (((hF.le e1).defer e4).put hp e3) e2
theorem seqE_cons (ops : List Oper) (o : Oper) (l : List Oper) (F : Fr) (H : Hp) : seqE ext call ops (o :: l) F H =
    (match stepE ext call ops o F.t H with
    | some (v, H', ds) => match (F.defer ds).put o.dst v with
      | some F' => seqE ext call ops l F' H'
      | none => none
    | none => none) := rfl
theorem seq_ok (hn : n ≤ PP.globals.size) (hc : CallsOk w0 call) (hx : ExtOk ext) {ops : Array Oper} {Q : Exit → Act → World → Prop} {F1 : Fr} {H1 : Hp} : ∀ (l : List Oper) (k : Nat) (E : En) (F : Fr) (H : Hp) (a : Act) (w : World),
    (∀ j, l[j]? = ops[k + j]?) → (∀ o ∈ l, operOk n o = true) → seqE ext call ops.toList l F H = some (F1, H1) → FRel E F a → Sim PP w0 E H w →
    (∀ E' a' w', E.le E' → FRel E' F1 a' → Sim PP w0 E' H1 w' → Q .normal a' w') → wpOps PP ops Q (List.range' k l.length) a w := by
  intro l
  induction l with
  | nil =>
    intro k E F H a w _ _ h hF S hQ
    have h : some (F, H) = some (F1, H1) := h
    simp only [Option.some.injEq, Prod.mk.injEq] at h
    obtain ⟨rfl, rfl⟩ := h
    exact hQ E a w (En.le_refl E) hF S
  | cons o l ih =>
    intro k E F H a w hk ho h hF S hQ
    rw [seqE_cons] at h
    cases hs : stepE ext call ops.toList o F.t H with
    | none => rw [hs] at h; cases h
    | some y =>
      obtain ⟨v, H', ds⟩ := y
      simp only [hs] at h
      cases hp : (F.defer ds).put o.dst v with
      | none => rw [hp] at h; cases h
      | some F' =>
        simp only [hp] at h
        rw [List.length_cons, List.range'_succ, wpOps_cons]
        refine step_ok hn hc hx S hF (by have := hk 0; simpa using this.symm) (ho o (by simp)) hs hp fun E' a' w' e1 e2 e3 => ?_
        exact ih (k + 1) E' F' H' a' w' (fun j => by have := hk (j + 1); rw [List.getElem?_cons_succ] at this; rw [this]; congr 1; omega) (fun x hx => ho x (by simp [hx])) h e2 e3
          fun E'' a'' w'' f1 f2 f3 => hQ E'' a'' w'' (En.le_trans e1 f1) f2 f3
end
end
end Go.Proofs.YtgjabfpkbcdkcaaGreatDoor
