/- Regions whose order is drawn do what the evaluator says. -/
import Derived.Test.YtgjabfpkbcdkcaaGreatDoorEy
namespace Go.Proofs.YtgjabfpkbcdkcaaGreatDoor
set_option linter.unusedVariables false
set_option linter.unusedSimpArgs false
section
variable {ops : Array Oper} {m LU DU : Nat} {seen : List (Nat × OI)} {s s' : St} {listed : Array Bool} {V0 V V' : Nat → Option AO} {w1 : Wo} {w w' : World} {w0 : Base} {E E' : En} {a : Act} {F F' : Fr} {H H' : Hp} {i n : Nat} {o : Oper} {v : Value} {ds : Option Dc}
theorem defer_fields (F : Fr) (ds : Option Dc) : (F.defer ds).sz = F.sz ∧ (F.defer ds).t = F.t ∧ (F.defer ds).df = (match ds with | none => F.df | some x => x :: F.df) := by
  obtain ⟨sz, t, df⟩ := F
  cases ds <;> exact ⟨rfl, rfl, rfl⟩
theorem dfA_tmps (a : Act) (E : En) (ds : Option Dc) : (dfA a E ds).tmps = a.tmps := by cases ds <;> rfl
theorem Inv.two (I : Inv ops m LU DU seen s listed V0 V w1 E a w) (ho : ops[i]? = some o) (hm : m.testBit i = false) (hw : ∀ j, Waits o j → Lst listed j) (hp : pairOk (infoOf ops.toList o) LU DU = true)
    (hl : Nat.beq (Nat.land (infoOf ops.toList o).dm LU) 0 = true ∨ warOk (infoOf ops.toList o).dm (nthN (ancL ops.toList []) i) seen = true) (hE : E.le E') (hS : Sim PP ⟨w1, V⟩ E' H' w') (hg : good E' v) (hds : dsGood E' ds)
    (hput : (s.F.defer ds).put o.dst v = some F') {dm' : Nat} (hdm : ∀ j, dm'.testBit j = true → Lst listed j)
    (hrec : ∀ j o', Miss m listed j → ops[j]? = some o' → F'.sz = s.F.sz → (∀ d, Sees ops o' d → s.F.t.get d = F'.t.get d) → (∀ d, o'.dst = some d → s.F.t.get d = F'.t.get d) → Rec ops V s.cl s.fl F' H' j o') :
    Inv ops (Nat.lor m (Nat.shiftLeft 1 i)) (Nat.lor LU (infoOf ops.toList o).lm) (Nat.lor DU (infoOf ops.toList o).dm) ((i, infoOf ops.toList o) :: seen) ⟨dm', s.cl, s.fl, F', H'⟩ (listed.setIfInBounds i true) V0 V w1 E'
      ((dfA a E' ds).put o.dst (conc E' v)) w' := by
  have hmm : ∀ j, (Nat.lor m (Nat.shiftLeft 1 i)).testBit j = true ↔ m.testBit j = true ∨ i = j := fun j => by rw [tb_or, tb_one, Bool.or_eq_true, decide_eq_true_eq]
  have hlt : i < listed.size := by rw [I.ls]; exact (Array.getElem?_eq_some_iff.1 ho).1
  obtain ⟨hp1, hp2⟩ := pair_spec hp
  have hmiss : ∀ j, Miss (Nat.lor m (Nat.shiftLeft 1 i)) (listed.setIfInBounds i true) j → Miss m listed j := fun j ⟨h1, h2⟩ => by
    have h3 : i ≠ j := fun h => h2 ((lst_set hlt).2 (.inl h))
    exact ⟨((hmm j).1 h1).elim id fun h => absurd h h3, fun h => h2 ((lst_set hlt).2 (.inr h))⟩
  have hmiss2 : ∀ j, Miss m listed j → Miss (Nat.lor m (Nat.shiftLeft 1 i)) (listed.setIfInBounds i true) j := fun j ⟨h1, h2⟩ =>
    ⟨(hmm j).2 (.inl h1), fun h => ((lst_set hlt).1 h).elim (fun h => by subst h; rw [hm] at h1; cases h1) h2⟩
  have hold : ∀ j o', m.testBit j = true → ops[j]? = some o' → (∃ c, (j, c) ∈ seen ∧ c = infoOf ops.toList o') ∧ (∀ d, Sees ops o' d → LU.testBit d = true) ∧ ∀ d, o'.dst = some d → DU.testBit d = true := fun j o' hj ho' => by
    obtain ⟨c, hc⟩ := (I.mem j).1 hj
    obtain ⟨o'', h1, h4, h2, h3⟩ := I.inf j c hc
    rw [ho'] at h1
    obtain rfl := Option.some.inj h1
    exact ⟨⟨c, hc, h4⟩, h2, h3⟩
  have hsees : ∀ j o' d, Miss m listed j → ops[j]? = some o' → Sees ops o' d → o.dst = some d → False := fun j o' d hj ho' hs hd => by
    obtain ⟨⟨c, hc, rfl⟩, h2, _⟩ := hold j o' hj.1 ho'
    rcases hl with hl | hl
    · exact dis_bits hl (dm_iff.2 hd) (h2 d hs)
    · have := allB_iff.1 hl (j, infoOf ops.toList o') hc
      rw [Bool.or_eq_true, bit1] at this
      rcases this with h | h
      · exact dis_bits h (lm_iff.2 hs) (dm_iff.2 hd)
      · exact hj.2 (anc_ok I.dc ho hw h)
  have huniq : ∀ j o' d, m.testBit j = true → ops[j]? = some o' → o'.dst = some d → o.dst = some d → False := fun j o' d h1 h2 h3 h4 => by
    have := (hold j o' h1 h2).2.2 d h3
    rw [hp2 d h4] at this
    cases this
  obtain ⟨g1, g2, g3⟩ := defer_fields s.F ds
  have hF : F'.sz = s.F.sz ∧ F'.df = (s.F.defer ds).df ∧ (∀ d, o.dst ≠ some d → F'.t.get d = s.F.t.get d) ∧ ∀ d, o.dst = some d → d < s.F.sz ∧ F'.t.get d = some v := by
    rcases Fr.put_some hput with ⟨h1, rfl⟩ | ⟨d, h1, h2, h3, h4, h5⟩
    · exact ⟨g1, rfl, fun _ _ => by rw [g2], fun d hd => by rw [h1] at hd; cases hd⟩
    · refine ⟨h3.trans g1, h4, fun k hk => ?_, fun k hk => ?_⟩
      · rw [h5, if_neg, g2]; rintro rfl; exact hk h1
      · rw [h1, Option.some.injEq] at hk; subst hk; rw [h5, if_pos rfl, ← g1]; exact ⟨h2, rfl⟩
  obtain ⟨hF1, hF2, hF3, hF4⟩ := hF
  refine ⟨by simp [I.ls], fun j hj => (hmm j).2 (((lst_set hlt).1 hj).elim .inr fun h => .inl (I.sub j h)), fun j o' hj ho' k hk => ?_, ?_, ⟨⟨o, ho, fun j hj => (I.mem j).1 (I.sub j (hw j hj))⟩, I.po⟩, ?_, ?_, ?_,
    by rw [put_size, dfA_tmps, hF1]; exact I.sz, ?_, ?_, ?_, hS, fun j hj => (lst_set hlt).2 (.inr (hdm j hj)), ?_, I.v0, I.fresh, I.fid, fun p hp h => ?_, fun p hp => ?_, fun p hp => (hmm p.1).2 (.inl (I.fm p hp))⟩
  · rcases (lst_set hlt).1 hj with rfl | hj
    · rw [ho] at ho'; obtain rfl := Option.some.inj ho'
      exact (lst_set hlt).2 (.inr (hw k hk))
    · exact (lst_set hlt).2 (.inr (I.dc j o' hj ho' k hk))
  · intro j
    rw [hmm, I.mem]
    constructor
    · rintro (⟨c, hc⟩ | rfl)
      · exact ⟨c, by simp [hc]⟩
      · exact ⟨infoOf ops.toList o, by simp⟩
    · rintro ⟨c, hc⟩
      rcases List.mem_cons.1 hc with hc | hc
      · exact .inr (Prod.mk.inj hc).1.symm
      · exact .inl ⟨c, hc⟩
  · intro j c hc
    rcases List.mem_cons.1 hc with hc | hc
    · obtain ⟨rfl, rfl⟩ := Prod.mk.inj hc
      exact ⟨o, ho, rfl, fun d hd => by rw [tb_or, lm_iff.2 hd, Bool.or_true], fun d hd => by rw [tb_or, dm_iff.2 hd, Bool.or_true]⟩
    · obtain ⟨o', h1, h2, h3, h4⟩ := I.inf j c hc
      exact ⟨o', h1, h2, fun d hd => by rw [tb_or, h3 d hd, Bool.true_or], fun d hd => by rw [tb_or, h4 d hd, Bool.true_or]⟩
  · intro j k o1 o2 d h1 h2 h3 h4 h5 h6
    rcases (hmm j).1 h1 with h1 | rfl
    · rcases (hmm k).1 h2 with h2 | rfl
      · exact I.uniq j k o1 o2 d h1 h2 h3 h4 h5 h6
      · rw [ho] at h4; obtain rfl := Option.some.inj h4
        exact (huniq j o1 d h1 h3 h5 h6).elim
    · rw [ho] at h3; obtain rfl := Option.some.inj h3
      rcases (hmm k).1 h2 with h2 | rfl
      · exact (huniq k o2 d h2 h4 h6 h5).elim
      · rfl
  · intro j k o1 o2 d h1 h2 h3 h4 h5 h6
    have h1 := hmiss j h1
    rcases (hmm k).1 h4 with h4 | rfl
    · exact I.opr j k o1 o2 d h1 h2 h3 h4 h5 h6
    · rw [ho] at h5; obtain rfl := Option.some.inj h5
      exact (hsees j o1 d h1 h2 h3 h6).elim
  · intro d hd
    show ((dfA a E' ds).put o.dst (conc E' v)).tmps.getD d undef = conc E' (opv1 (F'.t.get d)) ∧ good E' (opv1 (F'.t.get d))
    by_cases hk : o.dst = some d
    · obtain ⟨q1, q2⟩ := hF4 d hk
      rw [hk, put_getD _ (by rw [dfA_tmps]; exact Nat.lt_of_lt_of_le q1 I.sz), if_pos rfl, q2]
      exact ⟨rfl, hg⟩
    · rw [hF3 d hk]
      have hold := I.tmp d fun j o' hj ho' => hd j o' (hmiss2 j hj) ho'
      obtain ⟨c1, c2⟩ := conc_le hE _ hold.2
      refine ⟨?_, c2⟩
      rw [c1, ← hold.1]
      cases hdst : o.dst with
      | none => show (dfA a E' ds).tmps.getD d undef = _; rw [dfA_tmps]
      | some d' =>
        obtain ⟨q1, q2⟩ := hF4 d' hdst
        rw [put_getD _ (by rw [dfA_tmps]; exact Nat.lt_of_lt_of_le q1 I.sz), if_neg, dfA_tmps]
        rintro rfl
        exact hk hdst
  · rw [put_defers]
    show (dfA a E' ds).defers = F'.df.map (dconc E')
    rw [hF2, g3]
    have hm' : a.defers = s.F.df.map (dconc E') := by rw [I.df]; exact List.map_congr_left fun x hx => ((dconc_le hE (I.dg x hx)).1).symm
    cases ds with
    | none => exact hm'
    | some x => show dconc E' x :: a.defers = _; rw [hm']; rfl
  · show ∀ x ∈ F'.df, dgood E' x
    rw [hF2, g3]
    intro x hx
    cases ds with
    | none => exact (dconc_le hE (I.dg x hx)).2
    | some y =>
      rcases List.mem_cons.1 hx with rfl | hx
      · exact hds
      · exact (dconc_le hE (I.dg x hx)).2
  · intro j o' hj ho'
    have hj := hmiss j hj
    refine hrec j o' hj ho' hF1 (fun d hd => ?_) fun d hd => ?_
    · by_cases hk : o.dst = some d
      · exact (hsees j o' d hj ho' hd hk).elim
      · exact (hF3 d hk).symm
    · by_cases hk : o.dst = some d
      · exact (huniq j o' d hj.1 ho' hd hk).elim
      · exact (hF3 d hk).symm
  · rcases (lst_set hlt).1 h with h | h
    · have := I.fm p hp
      rw [← h, hm] at this
      cases this
    · exact En.some_le hE (I.frl p hp h)
  · rcases I.flm p hp with h | h
    · exact .inl ((lst_set hlt).2 (.inr h))
    · exact .inr h
theorem Sim.ahead (S : Sim PP ⟨w1, V⟩ E H w) (ob : AO) : Sim PP ⟨w1, fun j => if j = H.nx then some ob else V j⟩ E (H.new (.virt ob)) w ∧ HLe H (H.new (.virt ob)) := by
  have hget : ∀ id, (H.new (.virt ob)).t.get id = if id = H.nx then some (.virt ob) else H.t.get id := fun id => Hp.new_get H _ id
  have hnx := S.nx_none
  refine ⟨⟨S.os, S.tape, S.out, S.size, S.old, S.glob, fun id x hx => by rw [Hp.new_nx]; exact Nat.lt_succ_of_lt (S.lt id x hx), ?_, ?_, ?_, ?_⟩, fun id o _ hg => ?_⟩
  · intro id q hq
    rw [Hp.new_nx]
    rw [hget] at hq
    by_cases h : id = H.nx
    · omega
    · rw [if_neg h] at hq; exact Nat.lt_succ_of_lt (S.tl _ _ hq)
  · intro id q hq
    rw [hget] at hq
    by_cases h : id = H.nx
    · rw [if_pos h, Option.some.injEq] at hq
      subst hq
      rw [h, hnx]
      exact .inl rfl
    · rw [if_neg h] at hq
      exact S.obj id q hq
  · intro j j' q q' b c c' h1 h2 h3 h4
    rw [hget] at h1 h2
    have e1 : j ≠ H.nx := by rintro rfl; rw [hnx] at h3; cases h3
    have e2 : j' ≠ H.nx := by rintro rfl; rw [hnx] at h4; cases h4
    rw [if_neg e1] at h1
    rw [if_neg e2] at h2
    exact S.inj j j' q q' b c c' h1 h2 h3 h4
  · intro j ob' hj
    have hj : (if j = H.nx then some ob else V j) = some ob' := hj
    rw [hget]
    by_cases h : j = H.nx
    · rw [if_pos h] at hj ⊢
      obtain rfl := Option.some.inj hj
      rw [h]
      exact ⟨hnx, rfl⟩
    · rw [if_neg h] at hj ⊢
      exact S.pend j ob' hj
  · rw [hget, if_neg]
    · exact hg
    · rintro rfl
      exact absurd (S.tl _ _ hg) (Nat.lt_irrefl _)
section
variable {ext : FuncId → Option (List Value → Option Value)} {call : FuncId → List Value → Hp → Option (Value × Hp)} {Q : Exit → Act → World → Prop} {K : Act → World → Prop}
theorem takeE_eq (o : Oper) (ho : ops[i]? = some o) (k anc : Nat) (s : St) : takeE ext call ops.toList i k anc s = cond (wantE ops.toList o s.F.t)
    (match k with
    | 0 => take0 o i s
    | 1 => take1 o i s
    | _ => take2 ext call ops.toList o anc s)
    (match s.F.put o.dst undef with
      | some F' => some ⟨s.dm, s.cl, s.fl, F', s.H⟩
      | none => none) := by
  have hn : nth ops.toList i = some o := by rw [nth_eq, Array.getElem?_toList, ho]
  obtain ⟨dm, cl, fl, F, H⟩ := s
  unfold takeE
  simp only [hn]
  rfl
/-- an operation is taken ahead of its time -/
theorem Inv.ahead (I : Inv ops m LU DU seen s listed V0 V w1 E a w) (ho : ops[i]? = some o) (hm : m.testBit i = false) (hw : ∀ j, Waits o j → m.testBit j = true) (hp : pairOk (infoOf ops.toList o) LU DU = true) {k anc : Nat}
    (hk : (k = 0 ∧ quietOp o.op = true) ∨ k = 1) (hl : Nat.beq (Nat.land (infoOf ops.toList o).dm (Nat.lor LU (infoOf ops.toList o).lm)) 0 = true) (h : takeE ext call ops.toList i k anc s = some s') :
    ∃ V', Inv ops (Nat.lor m (Nat.shiftLeft 1 i)) (Nat.lor LU (infoOf ops.toList o).lm) (Nat.lor DU (infoOf ops.toList o).dm) ((i, infoOf ops.toList o) :: seen) s' listed V0 V' w1 E a w := by
  rw [takeE_eq o ho] at h
  have hnf : ∀ p ∈ s.fl, p.1 ≠ i := fun p hp h => by have := I.fm p hp; rw [h, hm] at this; cases this
  cases hwt : wantE ops.toList o s.F.t with
  | false =>
    rw [hwt, cond_false] at h
    cases hput : s.F.put o.dst undef with
    | none => rw [hput] at h; cases h
    | some F' =>
      rw [hput] at h
      obtain rfl := Option.some.inj h
      exact ⟨V, I.take ho hm hw hp hl hput (fun _ h => h) (fun _ h => h) (fun _ h => .inl h) (HLe.refl _) I.sim (fun _ _ h => h) (fun h1 h2 => ⟨fun d hd => (h1 d hd).1, .inl ⟨by rw [← want_congr h2]; exact hwt, hnf, fun d hd => (h1 d hd).2⟩⟩)
        I.fresh I.fid I.frl I.flm⟩
  | true =>
    rw [hwt, cond_true] at h
    rcases hk with ⟨rfl, hq⟩ | rfl
    · have h : take0 o i s = some s' := h
      unfold take0 at h
      cases he : evalOp o.op o.type s.F.t s.H with
      | v x =>
        simp only [he] at h
        cases hput : s.F.put o.dst x with
        | none => rw [hput] at h; cases h
        | some F' =>
          rw [hput] at h
          obtain rfl := Option.some.inj h
          exact ⟨V, I.take (cl' := i :: s.cl) ho hm hw hp hl hput (fun _ h => by simp [h]) (fun _ h => h) (fun _ h => .inl h) (HLe.refl _) I.sim (fun _ _ h => h)
            (fun h1 h2 => ⟨fun d hd => (h1 d hd).1, .inr (.inl ⟨by rw [← want_congr h2]; exact hwt, hq, by simp, hnf, x, quiet_le hq (opv_congr h2) (HLe.refl _) he, fun d hd => (h1 d hd).2⟩)⟩) I.fresh I.fid I.frl I.flm⟩
      | w x H => simp only [he] at h; cases h
      | en f l => simp only [he] at h; cases h
      | df f l c => simp only [he] at h; cases h
      | no => simp only [he] at h; cases h
    · have h : take1 o i s = some s' := h
      unfold take1 at h
      cases he : evalNew s.F.t o.op with
      | none => simp only [he] at h; cases h
      | some y =>
        obtain ⟨ob, mk⟩ := y
        simp only [he] at h
        cases hput : s.F.put o.dst (mk s.H.nx) with
        | none => simp only [hput] at h; cases h
        | some F' =>
          simp only [hput, fH_eq] at h
          obtain rfl := Option.some.inj h
          obtain ⟨hS, hH⟩ := I.sim.ahead ob
          have hVnx : V s.H.nx = none := by
            cases hv : V s.H.nx with
            | none => rfl
            | some q => exact absurd (I.sim.tl _ _ (I.sim.pend _ _ hv).2) (Nat.lt_irrefl _)
          have hlt : ∀ p ∈ s.fl, p.2 ≠ s.H.nx := fun p hp h => by
            rcases I.flm p hp with hl | ⟨q, hq⟩
            · have := I.frl p hp hl
              rw [h, I.sim.nx_none] at this
              cases this
            · rw [h, hVnx] at hq; cases hq
          refine ⟨_, I.take (fl' := (i, s.H.nx) :: s.fl) ho hm hw hp hl hput (fun _ h => h) (fun _ h => by simp [h]) (fun p hp => (List.mem_cons.1 hp).elim (fun h => .inr (by rw [h])) .inl) hH hS (fun id q hq => ?_)
            (fun h1 h2 => ⟨fun d hd => (h1 d hd).1, .inr (.inr ⟨by rw [← want_congr h2]; exact hwt, s.H.nx, ob, mk, by simp, fun p hp hpi => ?_, by rw [← new_congr (opv_congr h2)]; exact he, if_pos rfl, fun d hd => (h1 d hd).2⟩)⟩) (fun p hp => ?_) (fun p q hp hq hpq => ?_) (fun p hp hl => ?_) (fun p hp => ?_)⟩
          · show (if id = s.H.nx then some ob else V id) = some q
            rw [if_neg]
            · exact hq
            · rintro rfl; rw [hVnx] at hq; cases hq
          · rcases List.mem_cons.1 hp with rfl | hp
            · rfl
            · exact absurd hpi (hnf p hp)
          · rcases List.mem_cons.1 hp with rfl | hp
            · cases hv : V0 s.H.nx with
              | none => rfl
              | some q => have := I.v0 _ _ hv; rw [hVnx] at this; cases this
            · exact I.fresh p hp
          · rcases List.mem_cons.1 hp with rfl | hp
            · rcases List.mem_cons.1 hq with rfl | hq
              · rfl
              · exact absurd hpq.symm (hlt q hq)
            · rcases List.mem_cons.1 hq with rfl | hq
              · exact absurd hpq (hlt p hp)
              · exact I.fid p q hp hq hpq
          · rcases List.mem_cons.1 hp with rfl | hp
            · have := I.sub i hl
              rw [hm] at this
              cases this
            · exact I.frl p hp hl
          · rcases List.mem_cons.1 hp with rfl | hp
            · exact .inr ⟨ob, if_pos rfl⟩
            · rcases I.flm p hp with h | ⟨q, hq⟩
              · exact .inl h
              · refine .inr ⟨q, ?_⟩
                show (if p.2 = s.H.nx then some ob else V p.2) = some q
                rw [if_neg (hlt p hp)]
                exact hq
end
end
end Go.Proofs.YtgjabfpkbcdkcaaGreatDoor
