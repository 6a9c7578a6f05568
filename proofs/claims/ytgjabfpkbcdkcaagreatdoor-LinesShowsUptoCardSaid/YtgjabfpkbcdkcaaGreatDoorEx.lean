/- Plans of regions whose order is drawn: what is kept while they run. -/
import Derived.Test.YtgjabfpkbcdkcaaGreatDoorEu
namespace Go.Proofs.YtgjabfpkbcdkcaaGreatDoor
set_option linter.unusedVariables false
set_option linter.unusedSimpArgs false
def Lst (listed : Array Bool) (i : Nat) : Prop := listed.getD i false = true
/-- taken, and not come yet -/
def Miss (m : Nat) (listed : Array Bool) (i : Nat) : Prop := m.testBit i = true ∧ ¬ Lst listed i
/-- each waits for those that were taken before alone -/
def PO (ops : Array Oper) : List (Nat × OI) → Prop
  | [] => True
  | p :: l => (∃ o, ops[p.1]? = some o ∧ ∀ j, Waits o j → ∃ c, (j, c) ∈ l) ∧ PO ops l
/-- what is known of an operation that was taken, and has not come yet -/
def Rec (ops : Array Oper) (V : Nat → Option AO) (cl : List Nat) (fl : List (Nat × Nat)) (F : Fr) (H : Hp) (i : Nat) (o : Oper) : Prop :=
  (∀ d, o.dst = some d → d < F.sz) ∧
  ((wantE ops.toList o F.t = false ∧ (∀ p ∈ fl, p.1 ≠ i) ∧ ∀ d, o.dst = some d → opv1 (F.t.get d) = undef) ∨
   (wantE ops.toList o F.t = true ∧ quietOp o.op = true ∧ i ∈ cl ∧ (∀ p ∈ fl, p.1 ≠ i) ∧ ∃ x, evalOp o.op o.type F.t H = .v x ∧ ∀ d, o.dst = some d → opv1 (F.t.get d) = x) ∨
   (wantE ops.toList o F.t = true ∧ ∃ id ob mk, (i, id) ∈ fl ∧ (∀ p ∈ fl, p.1 = i → p.2 = id) ∧ evalNew F.t o.op = some (ob, mk) ∧ V id = some ob ∧ ∀ d, o.dst = some d → opv1 (F.t.get d) = mk id))
structure Inv (ops : Array Oper) (m LU DU : Nat) (seen : List (Nat × OI)) (s : St) (listed : Array Bool) (V0 V : Nat → Option AO) (w0 : Wo) (E : En) (a : Act) (w : World) : Prop where
  ls : listed.size = ops.size
  sub : ∀ i, Lst listed i → m.testBit i = true
  dc : ∀ i o, Lst listed i → ops[i]? = some o → ∀ j, Waits o j → Lst listed j
  mem : ∀ i, m.testBit i = true ↔ ∃ c, (i, c) ∈ seen
  po : PO ops seen
  inf : ∀ i c, (i, c) ∈ seen → ∃ o, ops[i]? = some o ∧ c = infoOf ops.toList o ∧ (∀ d, Sees ops o d → LU.testBit d = true) ∧ ∀ d, o.dst = some d → DU.testBit d = true
  uniq : ∀ i j o o' d, m.testBit i = true → m.testBit j = true → ops[i]? = some o → ops[j]? = some o' → o.dst = some d → o'.dst = some d → i = j
  opr : ∀ i j o o' d, Miss m listed i → ops[i]? = some o → Sees ops o d → m.testBit j = true → ops[j]? = some o' → o'.dst = some d → Waits o j
  sz : s.F.sz ≤ a.tmps.size
  tmp : ∀ d, (∀ i o, Miss m listed i → ops[i]? = some o → o.dst ≠ some d) → a.tmps.getD d undef = conc E (opv1 (s.F.t.get d)) ∧ good E (opv1 (s.F.t.get d))
  df : a.defers = s.F.df.map (dconc E)
  dg : ∀ x ∈ s.F.df, dgood E x
  sim : Sim PP ⟨w0, V⟩ E s.H w
  dmL : ∀ i, s.dm.testBit i = true → Lst listed i
  rc : ∀ i o, Miss m listed i → ops[i]? = some o → Rec ops V s.cl s.fl s.F s.H i o
  v0 : ∀ id ob, V0 id = some ob → V id = some ob
  fresh : ∀ p ∈ s.fl, V0 p.2 = none
  fid : ∀ p q, p ∈ s.fl → q ∈ s.fl → p.2 = q.2 → p = q
  frl : ∀ p ∈ s.fl, Lst listed p.1 → (E p.2).isSome = true
  flm : ∀ p ∈ s.fl, Lst listed p.1 ∨ ∃ ob, V p.2 = some ob
  fm : ∀ p ∈ s.fl, m.testBit p.1 = true
section
variable {ops : Array Oper} {m LU DU : Nat} {seen : List (Nat × OI)} {s : St} {listed : Array Bool} {V0 V V' : Nat → Option AO} {w0 : Wo} {w w' : World} {E E' : En} {a : Act} {F F' : Fr} {H H' : Hp} {i n : Nat} {o : Oper} {v : Value}
theorem want_congr {F F' : Tr Value} (h : ∀ d, Sees ops o d → F.get d = F'.get d) : wantE ops.toList o F = wantE ops.toList o F' := by
  unfold wantE
  cases hg : o.guard with
  | none => rfl
  | some y =>
    obtain ⟨g, b⟩ := y
    have : yieldL ops.toList F g = yieldL ops.toList F' g := by
      unfold yieldL
      rw [nth_eq, Array.getElem?_toList]
      cases ho : ops[g]? with
      | none => rfl
      | some o' =>
        simp only
        cases hd : o'.dst with
        | none => rfl
        | some d => simp only [h d (.inr ⟨g, b, o', hg, ho, hd⟩)]
    simp only [this]
theorem opv_congr {F F' : Tr Value} (h : ∀ d, Sees ops o d → F.get d = F'.get d) : ∀ x ∈ opsL o.op, opv F x = opv F' x := by
  intro x hx
  cases x with
  | tmp d => simp only [opv, h d (.inl hx)]
  | _ => rfl
theorem Rec.mono {cl cl' : List Nat} {fl fl' : List (Nat × Nat)} (h : Rec ops V cl fl F H i o) (hs : F'.sz = F.sz) (hF : ∀ d, Sees ops o d → F.t.get d = F'.t.get d) (hD : ∀ d, o.dst = some d → F.t.get d = F'.t.get d) (hH : HLe H H')
    (hcl : ∀ x ∈ cl, x ∈ cl') (hfl : ∀ x ∈ fl, x ∈ fl') (hfl2 : ∀ p ∈ fl', p.1 = i → p ∈ fl) (hV : ∀ id ob, (i, id) ∈ fl → V id = some ob → V' id = some ob) : Rec ops V' cl' fl' F' H' i o := by
  obtain ⟨h0, h⟩ := h
  refine ⟨fun d hd => by rw [hs]; exact h0 d hd, ?_⟩
  rw [want_congr hF] at h
  rcases h with ⟨h1, h6, h2⟩ | ⟨h1, h2, h3, h6, x, h4, h5⟩ | ⟨h1, id, ob, mk, h2, h6, h3, h4, h5⟩
  · exact .inl ⟨h1, fun p hp h => h6 p (hfl2 p hp h) h, fun d hd => by rw [← hD d hd]; exact h2 d hd⟩
  · exact .inr (.inl ⟨h1, h2, hcl _ h3, fun p hp h => h6 p (hfl2 p hp h) h, x, quiet_le h2 (opv_congr hF) hH h4, fun d hd => by rw [← hD d hd]; exact h5 d hd⟩)
  · exact .inr (.inr ⟨h1, id, ob, mk, hfl _ h2, fun p hp h => h6 p (hfl2 p hp h) h, by rw [← new_congr (opv_congr hF)]; exact h3, hV id ob h2 h4, fun d hd => by rw [← hD d hd]; exact h5 d hd⟩)
/-- of a pair that is told apart -/
theorem pair_spec (h : pairOk (infoOf ops.toList o) LU DU = true) : (∀ d, Sees ops o d → DU.testBit d = true → ∃ j o', Waits o j ∧ ops[j]? = some o' ∧ o'.dst = some d) ∧ ∀ d, o.dst = some d → DU.testBit d = false := by
  unfold pairOk at h
  rw [Bool.and_eq_true] at h
  obtain ⟨h1, h2⟩ := h
  refine ⟨fun d hs hd => ?_, fun d hd => ?_⟩
  · have h1 := Nat.eq_of_beq_eq_true h1
    have hb : (Nat.land (infoOf ops.toList o).lm DU).testBit d = true := by rw [tb_and, lm_iff.2 hs, hd]; rfl
    rw [← h1, tb_and, Bool.and_eq_true] at hb
    exact ad_iff.1 hb.2
  · cases hb : DU.testBit d with
    | false => rfl
    | true => exact (dis_bits h2 (dm_iff.2 hd) hb).elim
/-- an operation is taken -/
theorem Inv.take (I : Inv ops m LU DU seen s listed V0 V w0 E a w) (ho : ops[i]? = some o) (hm : m.testBit i = false) (hw : ∀ j, Waits o j → m.testBit j = true) (hp : pairOk (infoOf ops.toList o) LU DU = true)
    (hl : Nat.beq (Nat.land (infoOf ops.toList o).dm (Nat.lor LU (infoOf ops.toList o).lm)) 0 = true) (hput : s.F.put o.dst v = some F') {cl' : List Nat} {fl' : List (Nat × Nat)} (hcl : ∀ x ∈ s.cl, x ∈ cl') (hfl : ∀ x ∈ s.fl, x ∈ fl') (hfl2 : ∀ p ∈ fl', p ∈ s.fl ∨ p.1 = i) (hH : HLe s.H H')
    (hS : Sim PP ⟨w0, V'⟩ E H' w) (hV : ∀ id ob, V id = some ob → V' id = some ob) (hrec : (∀ d, o.dst = some d → d < F'.sz ∧ opv1 (F'.t.get d) = v) → (∀ d, Sees ops o d → s.F.t.get d = F'.t.get d) → Rec ops V' cl' fl' F' H' i o)
    (hfr : ∀ p ∈ fl', V0 p.2 = none) (hid : ∀ p q, p ∈ fl' → q ∈ fl' → p.2 = q.2 → p = q) (hrl : ∀ p ∈ fl', Lst listed p.1 → (E p.2).isSome = true) (hlm : ∀ p ∈ fl', Lst listed p.1 ∨ ∃ ob, V' p.2 = some ob) :
    Inv ops (Nat.lor m (Nat.shiftLeft 1 i)) (Nat.lor LU (infoOf ops.toList o).lm) (Nat.lor DU (infoOf ops.toList o).dm) ((i, infoOf ops.toList o) :: seen) ⟨s.dm, cl', fl', F', H'⟩ listed V0 V' w0 E a w := by
  have hmm : ∀ j, (Nat.lor m (Nat.shiftLeft 1 i)).testBit j = true ↔ m.testBit j = true ∨ i = j := fun j => by rw [tb_or, tb_one, Bool.or_eq_true, decide_eq_true_eq]
  have hnl : ¬ Lst listed i := fun h => by have := I.sub i h; rw [hm] at this; cases this
  obtain ⟨hp1, hp2⟩ := pair_spec hp
  have hl1 : ∀ d, o.dst = some d → LU.testBit d = true → False := fun d hd hb => dis_bits hl (dm_iff.2 hd) (by rw [tb_or, hb]; rfl)
  have hl2 : ∀ d, o.dst = some d → Sees ops o d → False := fun d hd hb => dis_bits hl (dm_iff.2 hd) (by rw [tb_or, lm_iff.2 hb, Bool.or_true])
  have hold : ∀ j o', m.testBit j = true → ops[j]? = some o' → (∀ d, Sees ops o' d → LU.testBit d = true) ∧ ∀ d, o'.dst = some d → DU.testBit d = true := fun j o' hj ho' => by
    obtain ⟨c, hc⟩ := (I.mem j).1 hj
    obtain ⟨o'', h1, _, h2, h3⟩ := I.inf j c hc
    rw [ho'] at h1
    obtain rfl := Option.some.inj h1
    exact ⟨h2, h3⟩
  have hF : F'.sz = s.F.sz ∧ F'.df = s.F.df ∧ (∀ d, o.dst ≠ some d → F'.t.get d = s.F.t.get d) ∧ ∀ d, o.dst = some d → d < F'.sz ∧ opv1 (F'.t.get d) = v := by
    rcases Fr.put_some hput with ⟨h1, rfl⟩ | ⟨d, h1, h2, h3, h4, h5⟩
    · exact ⟨rfl, rfl, fun _ _ => rfl, fun d hd => by rw [h1] at hd; cases hd⟩
    · refine ⟨h3, h4, fun k hk => ?_, fun k hk => ?_⟩
      · rw [h5, if_neg]; rintro rfl; exact hk h1
      · rw [h1, Option.some.injEq] at hk; subst hk; rw [h3, h5, if_pos rfl]; exact ⟨h2, rfl⟩
  obtain ⟨hF1, hF2, hF3, hF4⟩ := hF
  have hmiss : ∀ j, Miss (Nat.lor m (Nat.shiftLeft 1 i)) listed j ↔ Miss m listed j ∨ i = j := fun j => by
    unfold Miss
    rw [hmm]
    exact ⟨fun ⟨h1, h2⟩ => h1.elim (fun h => .inl ⟨h, h2⟩) .inr, fun h => h.elim (fun ⟨h1, h2⟩ => ⟨.inl h1, h2⟩) fun h => ⟨.inr h, by subst h; exact hnl⟩⟩
  have huniq : ∀ j o' d, m.testBit j = true → ops[j]? = some o' → o'.dst = some d → o.dst = some d → False := fun j o' d h1 h2 h3 h4 => by
    have := (hold j o' h1 h2).2 d h3
    rw [hp2 d h4] at this
    cases this
  refine ⟨I.ls, fun j hj => (hmm j).2 (.inl (I.sub j hj)), I.dc, ?_, ⟨⟨o, ho, fun j hj => (I.mem j).1 (hw j hj)⟩, I.po⟩, ?_, ?_, ?_, by rw [hF1]; exact I.sz, ?_, by rw [hF2]; exact I.df, by rw [hF2]; exact I.dg, hS, I.dmL, ?_,
    fun id ob h => hV id ob (I.v0 id ob h), hfr, hid, hrl, hlm, fun p hp => (hmm p.1).2 ((hfl2 p hp).elim (fun h => .inl (I.fm p h)) fun h => .inr h.symm)⟩
  · intro j
    rw [hmm, I.mem]
    constructor
    · rintro (⟨c, hc⟩ | rfl)
      · exact ⟨c, by simp [hc]⟩
      · exact ⟨infoOf ops.toList o, by simp⟩
    · rintro ⟨c, hc⟩
      rcases List.mem_cons.1 hc with hc | hc
      · exact .inr (Prod.mk.inj hc).1.symm
      · exact .inl ⟨c, hc⟩
  · intro j c hc
    rcases List.mem_cons.1 hc with hc | hc
    · obtain ⟨rfl, rfl⟩ := Prod.mk.inj hc
      exact ⟨o, ho, rfl, fun d hd => by rw [tb_or, lm_iff.2 hd, Bool.or_true], fun d hd => by rw [tb_or, dm_iff.2 hd, Bool.or_true]⟩
    · obtain ⟨o', h1, h2, h3, h4⟩ := I.inf j c hc
      exact ⟨o', h1, h2, fun d hd => by rw [tb_or, h3 d hd, Bool.true_or], fun d hd => by rw [tb_or, h4 d hd, Bool.true_or]⟩
  · intro j k o1 o2 d h1 h2 h3 h4 h5 h6
    rcases (hmm j).1 h1 with h1 | rfl
    · rcases (hmm k).1 h2 with h2 | rfl
      · exact I.uniq j k o1 o2 d h1 h2 h3 h4 h5 h6
      · rw [ho] at h4; obtain rfl := Option.some.inj h4
        exact (huniq j o1 d h1 h3 h5 h6).elim
    · rw [ho] at h3; obtain rfl := Option.some.inj h3
      rcases (hmm k).1 h2 with h2 | rfl
      · exact (huniq k o2 d h2 h4 h6 h5).elim
      · rfl
  · intro j k o1 o2 d h1 h2 h3 h4 h5 h6
    rcases (hmiss j).1 h1 with h1 | rfl
    · rcases (hmm k).1 h4 with h4 | rfl
      · exact I.opr j k o1 o2 d h1 h2 h3 h4 h5 h6
      · rw [ho] at h5; obtain rfl := Option.some.inj h5
        exact (hl1 d h6 ((hold j o1 h1.1 h2).1 d h3)).elim
    · rw [ho] at h2; obtain rfl := Option.some.inj h2
      rcases (hmm k).1 h4 with h4 | rfl
      · obtain ⟨j', o', q1, q2, q3⟩ := hp1 d h3 ((hold k o2 h4 h5).2 d h6)
        obtain rfl := I.uniq j' k o' o2 d (hw j' q1) h4 q2 h5 q3 h6
        exact q1
      · rw [ho] at h5; obtain rfl := Option.some.inj h5
        exact (hl2 d h6 h3).elim
  · intro d hd
    have h1 : o.dst ≠ some d := hd i o ((hmiss i).2 (.inr rfl)) ho
    show a.tmps.getD d undef = conc E (opv1 (F'.t.get d)) ∧ good E (opv1 (F'.t.get d))
    rw [hF3 d h1]
    exact I.tmp d fun j o' hj ho' => hd j o' ((hmiss j).2 (.inl hj)) ho'
  · intro j o' hj ho'
    rcases (hmiss j).1 hj with hj | rfl
    · refine (I.rc j o' hj ho').mono hF1 (fun d hd => ?_) (fun d hd => ?_) hH hcl hfl (fun p hp h => (hfl2 p hp).elim id fun hi => by rw [← hi, h] at hm; rw [hj.1] at hm; cases hm) fun id ob _ h => hV id ob h
      · by_cases hk : o.dst = some d
        · exact (hl1 d hk ((hold j o' hj.1 ho').1 d hd)).elim
        · exact (hF3 d hk).symm
      · by_cases hk : o.dst = some d
        · exact (huniq j o' d hj.1 ho' hd hk).elim
        · exact (hF3 d hk).symm
    · rw [ho] at ho'; obtain rfl := Option.some.inj ho'
      refine hrec hF4 fun d hd => ?_
      by_cases hk : o.dst = some d
      · exact (hl2 d hk hd).elim
      · exact (hF3 d hk).symm
theorem lst_set {j : Nat} (h : i < listed.size) : Lst (listed.setIfInBounds i true) j ↔ i = j ∨ Lst listed j := by
  unfold Lst
  simp only [Array.getD_eq_getD_getElem?, Array.getElem?_setIfInBounds]
  by_cases hj : i = j
  · subst hj; simp [h]
  · rw [if_neg hj]; simp [hj]
/-- one that was taken comes -/
theorem Inv.real (I : Inv ops m LU DU seen s listed V0 V w0 E a w) (ho : ops[i]? = some o) (hi : Miss m listed i) (hw : ∀ j, Waits o j → Lst listed j) (hE : E.le E') (hv : ∀ d, o.dst = some d → opv1 (s.F.t.get d) = v) (hg : good E' v)
    (hS : Sim PP ⟨w0, V'⟩ E' s.H w') (hV0 : ∀ id ob, V0 id = some ob → V' id = some ob) (hV : ∀ p ∈ s.fl, p.1 ≠ i → V' p.2 = V p.2) (hE1 : ∀ p ∈ s.fl, p.1 = i → (E' p.2).isSome = true) :
    Inv ops m LU DU seen s (listed.setIfInBounds i true) V0 V' w0 E' (a.put o.dst (conc E' v)) w' := by
  have hlt : i < listed.size := by rw [I.ls]; exact (Array.getElem?_eq_some_iff.1 ho).1
  have hmiss : ∀ j, Miss m (listed.setIfInBounds i true) j → Miss m listed j ∧ i ≠ j := fun j ⟨h1, h2⟩ => ⟨⟨h1, fun h => h2 ((lst_set hlt).2 (.inr h))⟩, fun h => h2 ((lst_set hlt).2 (.inl h))⟩
  refine ⟨by simp [I.ls], fun j hj => ((lst_set hlt).1 hj).elim (fun h => by subst h; exact hi.1) (I.sub j), fun j o' hj ho' k hk => ?_, I.mem, I.po, I.inf, I.uniq, fun j k o1 o2 d h1 => I.opr j k o1 o2 d (hmiss j h1).1, by rw [put_size]; exact I.sz, fun d hd => ?_,
    ?_, fun x hx => (dconc_le hE (I.dg x hx)).2, hS, fun j hj => (lst_set hlt).2 (.inr (I.dmL j hj)), fun j o' hj ho' => ?_, hV0, I.fresh, I.fid, fun p hp h => ?_, fun p hp => ?_, I.fm⟩
  · rcases (lst_set hlt).1 hj with rfl | hj
    · rw [ho] at ho'; obtain rfl := Option.some.inj ho'
      exact (lst_set hlt).2 (.inr (hw k hk))
    · exact (lst_set hlt).2 (.inr (I.dc j o' hj ho' k hk))
  · by_cases hk : o.dst = some d
    · have hd2 := ((I.rc i o hi ho).1 d hk)
      rw [hk, put_getD a (Nat.lt_of_lt_of_le hd2 I.sz), if_pos rfl, hv d hk]
      exact ⟨rfl, hg⟩
    · have hold := I.tmp d fun j o' hj ho' hdd => by
        by_cases hij : i = j
        · subst hij
          rw [ho] at ho'; obtain rfl := Option.some.inj ho'
          exact hk hdd
        · exact hd j o' ⟨hj.1, fun h => ((lst_set hlt).1 h).elim hij hj.2⟩ ho' hdd
      obtain ⟨c1, c2⟩ := conc_le hE _ hold.2
      refine ⟨?_, c2⟩
      rw [c1, ← hold.1]
      cases hdst : o.dst with
      | none => rfl
      | some d' =>
        have hd2 := ((I.rc i o hi ho).1 d' hdst)
        rw [put_getD a (Nat.lt_of_lt_of_le hd2 I.sz), if_neg]
        rintro rfl
        exact hk hdst
  · rw [put_defers, I.df]
    exact List.map_congr_left fun x hx => ((dconc_le hE (I.dg x hx)).1).symm
  · obtain ⟨h1, h2⟩ := hmiss j hj
    exact (I.rc j o' h1 ho').mono rfl (fun _ _ => rfl) (fun _ _ => rfl) (HLe.refl _) (fun _ h => h) (fun _ h => h) (fun _ h _ => h) fun id ob hm hb => by rw [hV _ hm (Ne.symm h2)]; exact hb
  · rcases (lst_set hlt).1 h with h | h
    · exact hE1 p hp h.symm
    · exact En.some_le hE (I.frl p hp h)
  · by_cases hpi : p.1 = i
    · exact .inl ((lst_set hlt).2 (.inl hpi.symm))
    · rcases I.flm p hp with h | ⟨ob, h⟩
      · exact .inl ((lst_set hlt).2 (.inr h))
      · exact .inr ⟨ob, by rw [hV p hp hpi]; exact h⟩
end
end Go.Proofs.YtgjabfpkbcdkcaaGreatDoor
