/- Regions whose order is drawn do what the evaluator says: joined. -/
import Derived.Test.YtgjabfpkbcdkcaaGreatDoorEz
namespace Go.Proofs.YtgjabfpkbcdkcaaGreatDoor
set_option linter.unusedVariables false
set_option linter.unusedSimpArgs false
section
variable {ops : Array Oper} {m LU DU : Nat} {seen : List (Nat × OI)} {s s' : St} {listed : Array Bool} {V0 V V' : Nat → Option AO} {w1 : Wo} {w w' : World} {w0 : Base} {E E' : En} {a : Act} {F F' : Fr} {H H' : Hp} {i n : Nat} {o : Oper} {v : Value} {ds : Option Dc}
variable {ext : FuncId → Option (List Value → Option Value)} {call : FuncId → List Value → Hp → Option (Value × Hp)} {Q : Exit → Act → World → Prop} {K : Act → World → Prop}
theorem ready_not (h : listed.getD i true = false) : ¬ Lst listed i := by
  unfold Lst
  intro h2
  rw [Array.getD_eq_getD_getElem?] at h h2
  cases hl : listed[i]? with
  | none => rw [hl] at h; cases h
  | some b => rw [hl] at h h2; rw [Option.getD_some] at h h2; rw [h] at h2; cases h2
theorem not_ready (hi : i < listed.size) (h : ¬ Lst listed i) : listed.getD i true = false := by
  unfold Lst at h
  rw [Array.getD_eq_getD_getElem?, Array.getElem?_eq_getElem hi, Option.getD_some] at h ⊢
  cases hb : listed[i] with
  | false => rfl
  | true => exact absurd hb h
theorem opE_quiet {F : Tr Value} (hq : quietOp o.op = true) (h : opE ext call o F H = some (v, H', ds)) : H' = H := by
  unfold opE at h
  rcases quiet_v (F := F) (H := H) (ty := o.type) hq with h1 | ⟨x, h1⟩
  · simp only [h1] at h; cases h
  · simp only [h1, Option.some.injEq, Prod.mk.injEq] at h; exact h.2.1.symm
theorem take2_eq (o : Oper) (anc : Nat) (s : St) : take2 ext call ops.toList o anc s = (match stepE ext call ops.toList o s.F.t (unvE (Nat.lor s.dm anc) s.fl s.H) with
    | some (v, H', ds) => match (s.F.defer ds).put o.dst v with
      | some F' => cond (quietOp o.op || holdE ops.toList (Nat.lor s.dm anc) F'.t H' s.cl) (some ⟨Nat.lor s.dm anc, s.cl, s.fl, F', H'⟩) none
      | none => none
    | none => none) := by
  obtain ⟨dm, cl, fl, F, H⟩ := s
  unfold take2
  simp only [fN_eq]
  rfl
/-- the only one that may come -/
theorem Inv.only (I : Inv ops m LU DU seen s listed V0 V w1 E a w) (hc : CallsOk ⟨w1, V⟩ call) (hx : ExtOk ext) (hn : n ≤ PP.globals.size) (hok : operOk n o = true) (ho : ops[i]? = some o) (hm : m.testBit i = false) (hw : ∀ j, Waits o j → Lst listed j)
    (hp : pairOk (infoOf ops.toList o) LU DU = true) (hl : Nat.beq (Nat.land (infoOf ops.toList o).dm LU) 0 = true ∨ warOk (infoOf ops.toList o).dm (nthN (ancL ops.toList []) i) seen = true)
    (h : takeE ext call ops.toList i 2 (nthN (ancL ops.toList []) i) s = some s')
    (hK : ∀ E' a' w', E.le E' → Inv ops (Nat.lor m (Nat.shiftLeft 1 i)) (Nat.lor LU (infoOf ops.toList o).lm) (Nat.lor DU (infoOf ops.toList o).dm) ((i, infoOf ops.toList o) :: seen) s' (listed.setIfInBounds i true) V0 V w1 E' a' w' → K a' w') :
    wpOp PP ops Q i K a w := by
  obtain ⟨hp1, hp2⟩ := pair_spec hp
  obtain ⟨hρ, hwant⟩ := I.opd hn hok fun d hd j o' hj ho' hdd => by
    obtain ⟨c, hc⟩ := (I.mem j).1 hj.1
    obtain ⟨o'', q1, _, _, q4⟩ := I.inf j c hc
    rw [ho'] at q1
    obtain rfl := Option.some.inj q1
    obtain ⟨j', o2, r1, r2, r3⟩ := hp1 d hd (q4 d hdd)
    obtain rfl := I.uniq j' j o2 o' d (I.sub j' (hw j' r1)) hj.1 r2 ho' r3 hdd
    exact hj.2 (hw j' r1)
  rw [takeE_eq o ho] at h
  unfold wpOp
  simp only [ho]
  rw [hwant]
  cases hwt : wantE ops.toList o s.F.t with
  | false =>
    rw [hwt, cond_false] at h
    cases hput : s.F.put o.dst undef with
    | none => rw [hput] at h; cases h
    | some F' =>
      rw [hput] at h
      obtain rfl := Option.some.inj h
      rw [if_neg (by simp)]
      exact hK E _ w (En.le_refl E) (I.two (ds := none) (v := undef) ho hm hw hp hl (En.le_refl E) I.sim ⟨⟩ trivial (by cases hF : s.F; rw [hF] at hput; exact hput) I.dmL
        fun j o' hj ho' h1 h2 h3 => (I.rc j o' hj ho').mono h1 h2 h3 (HLe.refl _) (fun _ h => h) (fun _ h => h) (fun _ h _ => h) fun _ _ _ h => h)
  | true =>
    rw [hwt, cond_true] at h
    rw [if_pos rfl]
    left
    have h : take2 ext call ops.toList o (nthN (ancL ops.toList []) i) s = some s' := h
    rw [take2_eq, stepE_eq, hwt, cond_true] at h
    have hdm : ∀ j, (Nat.lor s.dm (nthN (ancL ops.toList []) i)).testBit j = true → Lst listed j := fun j hj => by
      rw [tb_or, Bool.or_eq_true] at hj
      exact hj.elim (I.dmL j) fun h => anc_ok I.dc ho hw h
    generalize Nat.lor s.dm (nthN (ancL ops.toList []) i) = dm' at h hdm
    obtain ⟨hS, hHL⟩ := unvE_ok (dm := dm') s.fl s.H I.sim fun p hp hb => I.frl p hp (hdm _ hb)
    cases hop : opE ext call o s.F.t (unvE dm' s.fl s.H) with
    | none => rw [hop] at h; cases h
    | some y =>
      obtain ⟨v, H', ds⟩ := y
      simp only [hop] at h
      cases hput : (s.F.defer ds).put o.dst v with
      | none => rw [hput] at h; cases h
      | some F' =>
        simp only [hput] at h
        cases hb : (quietOp o.op || holdE ops.toList dm' F'.t H' s.cl) with
        | false => rw [hb] at h; cases h
        | true =>
          rw [hb, cond_true] at h
          obtain rfl := Option.some.inj h
          refine oper_ok hc hx hS hρ hop fun E' w' e1 e2 e3 e4 => ?_
          refine hK E' _ w' e1 (I.two ho hm hw hp hl e1 e2 e3 e4 hput hdm fun j o' hj ho' h1 h2 h3 => ?_)
          rw [Bool.or_eq_true] at hb
          obtain ⟨r0, hr⟩ := I.rc j o' hj ho'
          by_cases hq : quietOp o.op = true
          · obtain rfl := opE_quiet hq hop
            exact (I.rc j o' hj ho').mono h1 h2 h3 hHL (fun _ h => h) (fun _ h => h) (fun _ h _ => h) fun _ _ _ h => h
          · have hb := hb.resolve_left hq
            refine ⟨fun d hd => by rw [h1]; exact r0 d hd, ?_⟩
            rw [want_congr h2] at hr
            rcases hr with ⟨q1, q6, q2⟩ | ⟨q1, q2, q3, q6, x, q4, q5⟩ | ⟨q1, id, ob, mk, q2, q6, q3, q4, q5⟩
            · exact .inl ⟨q1, q6, fun d hd => by rw [← h3 d hd]; exact q2 d hd⟩
            · refine .inr (.inl ⟨q1, q2, q3, q6, ?_⟩)
              have hh := allB_iff.1 hb j q3
              rw [bit1] at hh
              have hjd : dm'.testBit j = false := by
                cases ht : dm'.testBit j with
                | false => rfl
                | true => exact absurd (hdm j ht) hj.2
              rw [hjd, cond_false] at hh
              unfold sameE at hh
              rw [nth_eq, Array.getElem?_toList, ho'] at hh
              simp only [q1, cond_true] at hh
              split at hh
              · rename_i x' hx'
                refine ⟨x', hx', fun d hd => ?_⟩
                rw [hd] at hh
                exact (veqN_ok 8 _ _ hh).symm
              · cases hh
            · exact .inr (.inr ⟨q1, id, ob, mk, q2, q6, by rw [← new_congr (opv_congr h2)]; exact q3, q4, fun d hd => by rw [← h3 d hd]; exact q5 d hd⟩)
theorem planL_succ (is : List OI) (anc : List Nat) (k m LU DU : Nat) (seen : List (Nat × OI)) : planL is anc (k + 1) m LU DU seen = (match rdyI m is 0 with
      | [] => some []
      | r => match pickL anc r LU DU seen with
        | some (i, c, kd, a) => consO (i, kd, a) (planL is anc k (Nat.lor m (Nat.shiftLeft 1 i)) (Nat.lor LU c.lm) (Nat.lor DU c.dm) ((i, c) :: seen))
        | none => none) := rfl
theorem planL_cons {is : List OI} {anc : List Nat} {k m LU DU : Nat} {seen : List (Nat × OI)} {rest : List (Nat × Nat × Nat)} (h : planL is anc k m LU DU seen = some rest) (hr : rdyI m is 0 ≠ []) :
    ∃ k' i c kd a rest', k = k' + 1 ∧ pickL anc (rdyI m is 0) LU DU seen = some (i, c, kd, a) ∧ rest = (i, kd, a) :: rest' ∧ planL is anc k' (Nat.lor m (Nat.shiftLeft 1 i)) (Nat.lor LU c.lm) (Nat.lor DU c.dm) ((i, c) :: seen) = some rest' := by
  cases k with
  | zero =>
    have h : (match rdyI m is 0 with | [] => some [] | _ => none) = some rest := h
    cases hy : rdyI m is 0 with
    | nil => exact absurd hy hr
    | cons x l => rw [hy] at h; cases h
  | succ k =>
    rw [planL_succ] at h
    cases hy : rdyI m is 0 with
    | nil => exact absurd hy hr
    | cons x l =>
      rw [hy] at h
      simp only at h
      cases hp : pickL anc (x :: l) LU DU seen with
      | none => rw [hp] at h; cases h
      | some y =>
        obtain ⟨i, c, kd, a⟩ := y
        simp only [hp] at h
        cases hrest : planL is anc k (Nat.lor m (Nat.shiftLeft 1 i)) (Nat.lor LU c.lm) (Nat.lor DU c.dm) ((i, c) :: seen) with
        | none => rw [hrest] at h; cases h
        | some rest' =>
          rw [hrest] at h
          have h : some ((i, kd, a) :: rest') = some rest := h
          obtain rfl := Option.some.inj h
          exact ⟨k, i, c, kd, a, rest', rfl, rfl, rfl, hrest⟩
theorem anyE_cons (p : Nat × Nat × Nat) (l : List (Nat × Nat × Nat)) (s : St) : anyE ext call ops.toList (p :: l) s = (match takeE ext call ops.toList p.1 p.2.1 p.2.2 s with | some s' => anyE ext call ops.toList l s' | none => none) := rfl
/-- a state of a region and of its plan -/
def Stage (ext : FuncId → Option (List Value → Option Value)) (call : FuncId → List Value → Hp → Option (Value × Hp)) (ops : Array Oper) (r : Fr × Hp) (listed : Array Bool) (V0 : Nat → Option AO) (w1 : Wo) (E : En) (a : Act) (w : World) : Prop :=
  ∃ k m LU DU seen s V rest, Inv ops m LU DU seen s listed V0 V w1 E a w ∧ planL (mp (infoOf ops.toList) ops.toList) (ancL ops.toList []) k m LU DU seen = some rest ∧ anyE ext call ops.toList rest s = some r
theorem Stage.op (hc : ∀ w0, CallsOk w0 call) (hx : ExtOk ext) (hn : n ≤ PP.globals.size) (hok : ∀ o ∈ ops.toList, operOk n o = true) {r : Fr × Hp} {x : Nat} (hrd : x ∈ Region.ready .any ops listed)
    (hK : ∀ E' a' w', E.le E' → Stage ext call ops r (listed.setIfInBounds x true) V0 w1 E' a' w' → K a' w') :
    ∀ (k m LU DU : Nat) (seen : List (Nat × OI)) (s : St) (V : Nat → Option AO) (rest : List (Nat × Nat × Nat)), Inv ops m LU DU seen s listed V0 V w1 E a w → planL (mp (infoOf ops.toList) ops.toList) (ancL ops.toList []) k m LU DU seen = some rest →
    anyE ext call ops.toList rest s = some r → wpOp PP ops Q x K a w := by
  obtain ⟨ox, hox, hnl, hwx⟩ := ready_iff.1 hrd
  have hnl := ready_not hnl
  have hokx : ∀ (i : Nat) o, ops[i]? = some o → operOk n o = true := fun i o h => hok o (Array.mem_toList_iff.2 (Array.mem_of_getElem? h))
  intro k
  induction k with
  | zero =>
    intro m LU DU seen s V rest I hp ha
    by_cases hm : m.testBit x = true
    · exact I.come hn (hokx x ox hox) hox ⟨hm, hnl⟩ hwx fun E' V' a' w' e1 I' => hK E' a' w' e1 ⟨_, _, _, _, _, _, V', _, I', hp, ha⟩
    · have hmem := rdy_iff.2 ⟨ox, hox, rfl, by simpa using hm, fun j hj => I.sub j (hwx j hj)⟩
      obtain ⟨k', _, _, _, _, _, h, _⟩ := planL_cons hp (List.ne_nil_of_mem hmem)
      omega
  | succ k ih =>
    intro m LU DU seen s V rest I hp ha
    by_cases hm : m.testBit x = true
    · exact I.come hn (hokx x ox hox) hox ⟨hm, hnl⟩ hwx fun E' V' a' w' e1 I' => hK E' a' w' e1 ⟨_, _, _, _, _, _, V', _, I', hp, ha⟩
    · have hm : m.testBit x = false := by simpa using hm
      have hmem := rdy_iff.2 ⟨ox, hox, rfl, hm, fun j hj => I.sub j (hwx j hj)⟩
      obtain ⟨k', i, c, kd, an, rest', hk, hpick, rfl, hp'⟩ := planL_cons hp (List.ne_nil_of_mem hmem)
      obtain rfl : k = k' := by omega
      obtain ⟨q1, q2, q3⟩ := pick_some hpick
      obtain ⟨o, ho, rfl, hmi, hwi⟩ := rdy_iff.1 q1
      rw [anyE_cons] at ha
      cases ht : takeE ext call ops.toList i kd an s with
      | none => simp only [ht] at ha; cases ha
      | some s' =>
        simp only [ht] at ha
        rcases q3 with ⟨rfl, hr1, rfl, hl⟩ | h01
        · rw [hr1] at hmem
          obtain ⟨rfl, _⟩ := Prod.mk.inj (List.mem_singleton.1 hmem)
          rw [ho] at hox
          obtain rfl := Option.some.inj hox
          exact I.only (hc _) hx hn (hokx _ _ ho) ho hm hwx q2 hl ht fun E' a' w' e1 I' => hK E' a' w' e1 ⟨k, _, _, _, _, _, V, rest', I', hp', ha⟩
        · have hk01 : (kd = 0 ∧ quietOp o.op = true) ∨ kd = 1 := h01.imp (fun h => ⟨h.1, h.2.1⟩) fun h => h.1
          have hl01 : Nat.beq (Nat.land (infoOf ops.toList o).dm (Nat.lor LU (infoOf ops.toList o).lm)) 0 = true := h01.elim (fun h => h.2.2) fun h => h.2
          obtain ⟨V', I'⟩ := I.ahead ho hmi hwi q2 hk01 hl01 ht
          exact ih _ _ _ _ _ V' rest' I' hp' ha
/-- the region has come to its end -/
theorem Stage.done {r : Fr × Hp} (h : Stage ext call ops r listed V0 w1 E a w) (hr : Region.ready .any ops listed = []) : FRel E r.1 a ∧ Sim PP ⟨w1, V0⟩ E r.2 w := by
  obtain ⟨k, m, LU, DU, seen, s, V, rest, I, hp, ha⟩ := h
  have hready : ∀ i o, ops[i]? = some o → ¬ Lst listed i → (∀ j, Waits o j → Lst listed j) → False := fun i o ho hn hw => by
    have : i ∈ Region.ready .any ops listed := ready_iff.2 ⟨o, ho, not_ready (by rw [I.ls]; exact (Array.getElem?_eq_some_iff.1 ho).1) hn, hw⟩
    rw [hr] at this
    cases this
  have hpo : ∀ l : List (Nat × OI), PO ops l → ∀ p ∈ l, Lst listed p.1 := by
    intro l
    induction l with
    | nil => intro _ p hp; cases hp
    | cons q l ih =>
      intro ⟨⟨o, ho, hw⟩, hl⟩ p hp
      rcases List.mem_cons.1 hp with rfl | hp
      · by_cases hn : Lst listed p.1
        · exact hn
        · exact (hready p.1 o ho hn fun j hj => by obtain ⟨c, hc⟩ := hw j hj; exact ih hl _ hc).elim
      · exact ih hl p hp
  have hall : ∀ i, m.testBit i = true → Lst listed i := fun i hi => by obtain ⟨c, hc⟩ := (I.mem i).1 hi; exact hpo seen I.po _ hc
  have hnil : rdyI m (mp (infoOf ops.toList) ops.toList) 0 = [] := by
    refine List.eq_nil_iff_forall_not_mem.2 fun p hp => ?_
    obtain ⟨i, c⟩ := p
    obtain ⟨o, ho, _, hm, hw⟩ := rdy_iff.1 hp
    exact hready i o ho (fun h => by have := I.sub i h; rw [hm] at this; cases this) fun j hj => hall j (hw j hj)
  have hrest : rest = [] := by
    cases k with
    | zero =>
      have hp : (match rdyI m (mp (infoOf ops.toList) ops.toList) 0 with | [] => some [] | _ => none) = some rest := hp
      rw [hnil] at hp
      exact (Option.some.inj hp).symm
    | succ k =>
      rw [planL_succ, hnil] at hp
      exact (Option.some.inj hp).symm
  subst hrest
  have ha : (fH (unvAll s.fl s.H) fun H => some (s.F, H)) = some r := ha
  rw [fH_eq] at ha
  obtain rfl := Option.some.inj ha
  refine ⟨⟨I.sz, fun d => I.tmp d fun i o hi => absurd (hall i hi.1) hi.2, I.df, I.dg⟩, ?_⟩
  have hS := unvAll_ok s.fl s.H I.sim fun p hp => I.frl p hp (hall _ (I.fm p hp))
  exact ⟨hS.os, hS.tape, hS.out, hS.size, hS.old, hS.glob, hS.lt, hS.tl, hS.obj, hS.inj, fun id ob h => hS.pend id ob (I.v0 id ob h)⟩
def unl (listed : Array Bool) : Nat := listed.toList.count false
theorem unl_set {x : Nat} (h : listed.getD x true = false) : unl (listed.setIfInBounds x true) + 1 = unl listed := by
  have key : ∀ (l : List Bool) (x : Nat), l[x]? = some false → (l.set x true).count false + 1 = l.count false := by
    intro l
    induction l with
    | nil => intro x h; simp at h
    | cons b l ih =>
      intro x h
      cases x with
      | zero =>
        simp only [List.getElem?_cons_zero, Option.some.injEq] at h
        subst h
        simp
      | succ x =>
        rw [List.getElem?_cons_succ] at h
        rw [List.set_cons_succ, List.count_cons, List.count_cons]
        have := ih x h
        omega
  unfold unl
  rw [Array.toList_setIfInBounds]
  refine key _ _ ?_
  rw [Array.getElem?_toList]
  rw [Array.getD_eq_getD_getElem?] at h
  cases hl : listed[x]? with
  | none => rw [hl] at h; cases h
  | some b => rw [hl, Option.getD_some] at h; rw [h]
theorem unl_zero (h : unl listed = 0) : Region.ready .any ops listed = [] := by
  refine List.eq_nil_iff_forall_not_mem.2 fun i hi => ?_
  obtain ⟨o, ho, h1, _⟩ := ready_iff.1 hi
  have := unl_set h1
  omega
theorem any_ok (hc : ∀ w0, CallsOk w0 call) (hx : ExtOk ext) (hn : n ≤ PP.globals.size) (hok : ∀ o ∈ ops.toList, operOk n o = true) {r : Fr × Hp} :
    ∀ (fuel : Nat) (listed : Array Bool) (E : En) (a : Act) (w : World), unl listed ≤ fuel → Stage ext call ops r listed V0 w1 E a w → (∀ E' a' w', E.le E' → FRel E' r.1 a' → Sim PP ⟨w1, V0⟩ E' r.2 w' → Q .normal a' w') →
    wpAny PP .any ops Q fuel listed a w := by
  intro fuel
  induction fuel with
  | zero =>
    intro listed E a w hu hS hQ
    have hr := unl_zero (ops := ops) (Nat.le_zero.1 hu)
    obtain ⟨h1, h2⟩ := hS.done hr
    exact ⟨hr, hQ E a w (En.le_refl E) h1 h2⟩
  | succ fuel ih =>
    intro listed E a w hu hS hQ
    refine ⟨fun hr => ?_, fun x hx' => ?_⟩
    · obtain ⟨h1, h2⟩ := hS.done hr
      exact hQ E a w (En.le_refl E) h1 h2
    · obtain ⟨k, m, LU, DU, seen, s, V, rest, I, hp, ha⟩ := hS
      refine Stage.op hc hx hn hok hx' (fun E' a' w' e1 hS' => ?_) k m LU DU seen s V rest I hp ha
      obtain ⟨o, ho, h1, _⟩ := ready_iff.1 hx'
      refine ih _ E' a' w' (by have := unl_set h1; omega) hS' fun E'' a'' w'' f1 f2 f3 => hQ E'' a'' w'' (En.le_trans e1 f1) f2 f3
/-- a region whose order is drawn does what the evaluator says -/
theorem drawn_ok (hn : n ≤ PP.globals.size) (hx : ExtOk ext) : ∀ call, (∀ w0, CallsOk w0 call) → ∀ w0, DrawnOk w0 n (fun _ => true) ext call := by
  intro call hc w0 ops hok _ l F H F1 H1 hp ha E a w Q hF S hQ
  obtain ⟨w1, V0⟩ := w0
  have hlst : ∀ i, ¬ Lst (Array.replicate ops.size false) i := fun i h => by
    unfold Lst at h
    rw [Array.getD_eq_getD_getElem?, Array.getElem?_replicate] at h
    split at h <;> cases h
  refine any_ok (r := (F1, H1)) (V0 := V0) (w1 := w1) hc hx hn hok ops.size _ E a w ?_ ⟨ln ops.toList, 0, 0, 0, [], ⟨0, [], [], F, H⟩, V0, l, ?_, hp, ha⟩ hQ
  · unfold unl
    exact Nat.le_trans (List.count_le_length) (by simp)
  · have h0 : ∀ i : Nat, (0 : Nat).testBit i = true → False := fun i h => by rw [Nat.zero_testBit] at h; cases h
    have hno : ∀ {α : Type} (p : α), p ∈ ([] : List α) → False := fun p h => by cases h
    exact ⟨by simp, fun i h => absurd h (hlst i), fun i o h => absurd h (hlst i), fun i => ⟨fun h => (h0 i h).elim, fun ⟨c, h⟩ => (hno _ h).elim⟩, trivial, fun i c h => (hno _ h).elim, fun i j o o' d h => (h0 i h).elim, fun i j o o' d h => (h0 i h.1).elim, hF.sz, fun d _ => hF.tmp d, hF.df, hF.dg, S,
      fun i h => (h0 i h).elim, fun i o h => (h0 i h.1).elim, fun _ _ h => h, fun p h => (hno _ h).elim, fun p q h => (hno _ h).elim, fun p h => (hno _ h).elim, fun p h => (hno _ h).elim, fun p h => (hno _ h).elim⟩
/-- the evaluator's calls are the model's -/
theorem eval_ok {fns : Nat → Option Func} {hook : FuncId → Option (List Value → Hp → Option (Value × Hp))} (hm : PP.follows .mixedOrders = true) (hn : n ≤ PP.globals.size) (hfn : FnsOk n (fun _ => true) fns) (hx : ExtOk ext) (hh : ∀ w0, HooksOk w0 hook) :
    ∀ k w0, CallsOk w0 (callE ext fns hook k) := callE_ok hm hn hfn hx hh (drawn_ok hn hx)
end
end Go.Proofs.YtgjabfpkbcdkcaaGreatDoor
