/- The evaluator's code is the model's, up to regions whose order is drawn. -/
import Derived.Test.YtgjabfpkbcdkcaaGreatDoorEq
import Derived.Scope
import Derived.Conc.LoneSelect
import Derived.Defers
namespace Go.Proofs.YtgjabfpkbcdkcaaGreatDoor
set_option linter.unusedVariables false
set_option linter.unusedSimpArgs false
def exOf (e : EX) : Exit := match e with | .normal => .normal | .exit id => .exit id | .ret => .ret
/-- what a code leads to -/
def CQ (w0 : Base) (E : En) (r : EX × Fr × Hp) : Exit → Act → World → Prop := fun e a w => e = exOf r.1 ∧ ∃ E', E.le E' ∧ FRel E' r.2.1 a ∧ Sim PP w0 E' r.2.2 w
noncomputable def codeOk (dr : List Oper → Bool) (n : Nat) (c : Code) : Bool :=
  Code.rec (motive := fun _ => Bool) true (fun _ ops d => allB (operOk n) ops.toList && (!d || dr ops.toList)) (fun _ _ a b => a && b) (fun c _ _ a b => opdOk n c && (a && b)) (fun _ _ a => a) (fun _ a => a) (fun _ _ _ _ _ _ => false)
    (fun _ => true) (fun _ a => a) (fun _ => true) (fun _ => true) true (fun _ => true) c
section
variable {ext : FuncId → Option (List Value → Option Value)} {call : FuncId → List Value → Hp → Option (Value × Hp)} {dr : List Oper → Bool}
/-- a region whose order is drawn does what the evaluator says -/
def DrawnOk (w0 : Base) (n : Nat) (dr : List Oper → Bool) (ext : FuncId → Option (List Value → Option Value)) (call : FuncId → List Value → Hp → Option (Value × Hp)) : Prop :=
  ∀ (ops : Array Oper), (∀ o ∈ ops.toList, operOk n o = true) → dr ops.toList = true → ∀ l F H F1 H1, plan ops.toList = some l → anyE ext call ops.toList l ⟨0, [], [], F, H⟩ = some (F1, H1) →
    ∀ (E : En) (a : Act) (w : World) (Q : Exit → Act → World → Prop), FRel E F a → Sim PP w0 E H w → (∀ E' a' w', E.le E' → FRel E' F1 a' → Sim PP w0 E' H1 w' → Q .normal a' w') →
    wpAny PP .any ops Q ops.size (Array.replicate ops.size false) a w
end
section
variable {P : Program} {Q : Exit → Act → World → Prop}
/-- a loop whose rounds are counted down -/
theorem wp_loop_n {c : Code} (R : Nat → Act → World → Prop) (h0 : ∀ a w, ¬ R 0 a w) (round : ∀ n a w, R (n + 1) a w → c.wp P (Exit.then (R n) Q) a w) {n : Nat} {a : Act} {w : World} (h : R n a w) : (Code.loop c).wp P Q a w := by
  intro b k cs
  have key : ∀ n a w, R n a w → ∃ e a' w', Q e a' w' ∧ Arrives P (lone (b.at a (.code c :: .inLoop c :: k)) cs w) b k cs e a' w' := by
    intro n
    induction n with
    | zero => intro a w h; exact absurd h (h0 a w)
    | succ n ih =>
      intro a w h
      obtain ⟨e, a1, w1, hq, harr⟩ := round n a w h b (.inLoop c :: k) cs
      cases e with
      | normal =>
        obtain ⟨e2, a2, w2, hq2, harr2⟩ := ih a1 w1 hq
        exact ⟨e2, a2, w2, hq2, .of_steps (Steps.trans harr (.one step_inLoop)) harr2⟩
      | exit id => exact ⟨_, a1, w1, hq, .pass (x := .inLoop c) rfl (fun _ _ => .inl (by simp)) harr⟩
      | goto l => exact ⟨_, a1, w1, hq, .pass (x := .inLoop c) rfl (fun _ _ => .inl (by simp)) harr⟩
      | ret => exact ⟨_, a1, w1, hq, .pass (x := .inLoop c) rfl (fun _ _ => .inl (by simp)) harr⟩
      | panic ch => exact ⟨_, a1, w1, hq, .pass (x := .inLoop c) rfl (fun _ _ => .inl (by simp)) harr⟩
      | outgrown => exact ⟨_, a1, w1, hq, .pass (x := .inLoop c) rfl (fun _ _ => .inl (by simp)) harr⟩
  obtain ⟨e, a', w', hq, harr⟩ := key n a w h
  exact ⟨e, a', w', hq, .of_steps (.one step_loop) harr⟩
end
section
variable {w0 : Base} {w w' : World} {E E' : En} {H H' : Hp} {F F' : Fr} {a : Act} {n : Nat}
variable {ext : FuncId → Option (List Value → Option Value)} {call : FuncId → List Value → Hp → Option (Value × Hp)} {dr : List Oper → Bool}
theorem CQ.mono (hE : E.le E') {r : EX × Fr × Hp} {e : Exit} (h : CQ w0 E' r e a w) : CQ w0 E r e a w := let ⟨h1, E'', h2, h3, h4⟩ := h; ⟨h1, E'', En.le_trans hE h2, h3, h4⟩
theorem loopE_succ (body : Fr → Hp → Option (EX × Fr × Hp)) (n : Nat) (F : Fr) (H : Hp) : loopE body (n + 1) F H = (match body F H with
    | some (.normal, F', H') => loopE body n F' H'
    | r => r) := rfl
section
open Go.Conc
theorem selOf_some {ops : List Oper} {d : Option Tmp} {s : SelectCase} {rest : List Oper} (h : selOf ops = some (d, s, rest)) : ∃ o, ops = o :: rest ∧ o.op = .select ⟨[s]⟩ false ∧ o.guard = none ∧ o.dst = d := by
  unfold selOf at h
  split at h
  · cases h
  · rename_i o l
    split at h
    · rename_i s' h1 h2
      simp only [Option.some.injEq, Prod.mk.injEq] at h
      obtain ⟨rfl, rfl, rfl⟩ := h
      exact ⟨o, rfl, h1, h2, rfl⟩
    · cases h
/-- a select of one case is handed up -/
theorem sel_comm {P : Program} {b : Frame} {a : Act} {k : List Item} {cs : List Frame} {w : World} {ops : Array Oper} {i : Nat} {rest : List Nat} {o : Oper} {s : SelectCase} {z : Value} (ho : ops[i]? = some o) (hop : o.op = .select ⟨[s]⟩ false) (hg : o.guard = none)
    (hz : (zeroValue s.elem).run P w = .ok z w) : ∃ es, stepG P true (G (b.at a (.inRegion ops (i :: rest) :: k)) cs) w = .comm (G (b.at a (.inRegion ops (i :: rest) :: k)) cs) #[{ chan := a.eval s.chan, send := s.send.map a.eval, zero := z }] false .select w es := by
  have hw : Region.wanted o (yielded ops a.tmps) = true := by unfold Region.wanted; rw [hg]
  have h := stepG_op (P := P) (b := b) (a := a) (k := k) (cs := cs) (w := w) (rest := rest) ho hw
  have hr : (execOp a.eval o).run P w = .ok (.comm #[{ chan := a.eval s.chan, send := s.send.map a.eval, zero := z }] false .select) w := by
    simp [execOp, hop, hz]
  show ∃ es, stepG P true { frame := b.at a (.inRegion ops (i :: rest) :: k), callers := cs, status := .running, dying := none } w = GStep.comm (G (b.at a (.inRegion ops (i :: rest) :: k)) cs) #[{ chan := a.eval s.chan, send := s.send.map a.eval, zero := z }] false .select w es
  rw [h]
  simp only [stepG.apply, Sem.runT_eq, hr]
  exact ⟨_, rfl⟩
theorem wp_region_first {P : Program} {Q : Exit → Act → World → Prop} {id : Nat} {ops : Array Oper} {a a' : Act} {w w' : World} (hs : 0 < ops.size)
    (hstep : ∀ (b : Frame) (k : List Item) (cs : List Frame), step P (lone (b.at a (.inRegion ops (0 :: List.range' 1 (ops.size - 1)) :: k)) cs w) = .next (lone (b.at a' (.inRegion ops (List.range' 1 (ops.size - 1)) :: k)) cs w'))
    (h : wpOps P ops Q (List.range' 1 (ops.size - 1)) a' w') : (Code.region id ops false).wp P Q a w := by
  intro b k cs
  obtain ⟨e, a2, w2, hq, harr⟩ := wp_ops _ a' w' h b k cs
  refine ⟨e, a2, w2, hq, .of_steps (.head step_region (.one ?_)) harr⟩
  have : List.range ops.size = 0 :: List.range' 1 (ops.size - 1) := by
    obtain ⟨m, hm⟩ : ∃ m, ops.size = m + 1 := ⟨ops.size - 1, by omega⟩
    rw [hm, List.range_eq_range', List.range'_succ]
    simp
  rw [this]
  exact hstep b k cs
theorem sel_ok (hn : n ≤ PP.globals.size) (S : Sim PP w0 E H w) (hF : FRel E F a) {ops : Array Oper} {o : Oper} {s : SelectCase} (ho : ops[0]? = some o) (hop : o.op = .select ⟨[s]⟩ false) (hgd : o.guard = none) (hok : operOk n o = true)
    {v : Value} (h : selE F.t H s = some (v, H')) (hput : F.put o.dst v = some F') (rest : List Nat) :
    ∃ a' w', (∀ (b : Frame) (k : List Item) (cs : List Frame), step PP (lone (b.at a (.inRegion ops (0 :: rest) :: k)) cs w) = .next (lone (b.at a' (.inRegion ops rest :: k)) cs w')) ∧ FRel E F' a' ∧ Sim PP w0 E H' w' := by
  have hopd : ∀ x, x = s.chan ∨ s.send = some x → a.eval x = conc E (opv F.t x) ∧ good E (opv F.t x) := fun x hx => by
    refine hF.opd hn S hok x ?_
    rw [hop]
    show x ∈ s.chan :: s.send.toList
    rcases hx with rfl | hx
    · simp
    · simp [hx]
  have hfin : ∀ (b : Frame) (k : List Item) v, (b.at a (.inRegion ops (0 :: rest) :: k)).finish v = b.at (a.put o.dst v) (.inRegion ops rest :: k) := by
    intro b k v; rw [Frame.finish_at, ho]; rfl
  unfold selE at h
  split at h
  · rename_i c z hch hz
    obtain ⟨i, hi, hzi, hza⟩ := zeroE_ok hz
    obtain ⟨z1, z2⟩ := afree_ok E hza
    have hzr : (zeroValue s.elem).run PP w = .ok z w := run_zeroValue hi hzi
    have hce := (hopd s.chan (.inl rfl)).1
    rw [hch] at hce
    split at h
    · rename_i cap buf sn r hg
      obtain ⟨b0, c0, hE, hb, hcell, hbg⟩ := S.at_ hg (by intro q; simp)
      have hblk : E.blk c = b0 := by simp [En.blk, hE]
      simp only [conc, hblk] at hce
      have hlt := (Array.getElem?_eq_some_iff.1 hcell).1
      split at h
      · rename_i hsend
        split at h
        · simp only [Option.some.injEq, Prod.mk.injEq] at h
          obtain ⟨rfl, rfl⟩ := h
          refine ⟨_, w, fun b k cs => ?_, hF.put hput ⟨trivial, trivial, z2, trivial⟩, S⟩
          obtain ⟨es, hes⟩ := sel_comm (b := b) (k := k) (cs := cs) (rest := rest) ho hop hgd hzr
          rw [hsend, hce] at hes
          rw [lone_eq_solo, step_lone_select_default (c := b0) (z := z) hes hcell, hfin, lone_eq_solo]
          simp [conc, concA, concL, z1, goInt]
        · rename_i u rest'
          simp only [Option.some.injEq, Prod.mk.injEq] at h
          obtain ⟨rfl, rfl⟩ := h
          have hu := hbg u (by simp)
          refine ⟨_, w.setChan b0 cap ((⟨(u :: rest').map (conc E)⟩ : Array Value).extract 1 (⟨(u :: rest').map (conc E)⟩ : Array Value).size) false sn (r + 1) false, fun b k cs => ?_, hF.put hput ⟨trivial, trivial, hu, trivial⟩, ?_⟩
          · obtain ⟨es, hes⟩ := sel_comm (b := b) (k := k) (cs := cs) (rest := rest) ho hop hgd hzr
            rw [hsend, hce] at hes
            rw [lone_eq_solo, step_lone_select_recv_buf (c := b0) (z := z) hes hcell (by simp), hfin, lone_eq_solo]
            simp [conc, concA, concL, goInt]
          · refine S.put hg hE hb (size_setChan ..) (fun k hk => by simp only [World.setChan]; rw [Array.getElem?_setIfInBounds_ne (Ne.symm hk)]) rfl rfl rfl (by intro q; simp) ⟨?_, fun v hv => hbg v (by simp [hv])⟩
            rw [heap_setChan _ _ _ _ _ _ _ _ hlt]
            simp
            exact List.take_of_length_le (by simp)
      · rename_i x hsend
        obtain ⟨hx1, hx2⟩ := hopd x (.inr hsend)
        cases hbl : Nat.blt (ln buf) cap with
        | true =>
          rw [hbl, cond_true, fL_eq, app_eq] at h
          simp only [Option.some.injEq, Prod.mk.injEq] at h
          obtain ⟨rfl, rfl⟩ := h
          rw [ln_eq, Nat.blt_eq] at hbl
          refine ⟨_, w.setChan b0 cap ((⟨buf.map (conc E)⟩ : Array Value).push (conc E (opv F.t x))) false (sn + 1) r false, fun b k cs => ?_, hF.put hput ⟨trivial, trivial, trivial⟩, ?_⟩
          · obtain ⟨es, hes⟩ := sel_comm (b := b) (k := k) (cs := cs) (rest := rest) ho hop hgd hzr
            rw [hsend, Option.map_some, hce, hx1] at hes
            rw [lone_eq_solo, step_lone_select_send_room (c := b0) (z' := z) hes hcell (by simpa using hbl), hfin, lone_eq_solo]
            simp [conc, concA, concL, goInt]
          · refine S.put hg hE hb (size_setChan ..) (fun k hk => by simp only [World.setChan]; rw [Array.getElem?_setIfInBounds_ne (Ne.symm hk)]) rfl rfl rfl (by intro q; simp) ⟨?_, fun v hv => (List.mem_append.1 hv).elim (hbg v) fun h => by rw [List.mem_singleton.1 h]; exact hx2⟩
            rw [heap_setChan _ _ _ _ _ _ _ _ hlt]
            simp
        | false =>
          rw [hbl, cond_false] at h
          simp only [Option.some.injEq, Prod.mk.injEq] at h
          obtain ⟨rfl, rfl⟩ := h
          have hfull : cap ≤ buf.length := by
            rcases Nat.lt_or_ge buf.length cap with hlt' | hge
            · rw [ln_eq] at hbl
              have : Nat.blt buf.length cap = true := by rw [Nat.blt_eq]; exact hlt'
              rw [this] at hbl
              cases hbl
            · exact hge
          refine ⟨_, w, fun b k cs => ?_, hF.put hput ⟨trivial, trivial, trivial⟩, S⟩
          obtain ⟨es, hes⟩ := sel_comm (b := b) (k := k) (cs := cs) (rest := rest) ho hop hgd hzr
          rw [hsend, Option.map_some, hce, hx1] at hes
          rw [lone_eq_solo, step_lone_select_send_full (c := b0) (z' := z) hes hcell (by simpa using hfull), hfin, lone_eq_solo]
          simp [conc, concA, concL, goInt]
    · cases h
  · cases h
end
theorem code_ok (hm : PP.follows .mixedOrders = true) (hn : n ≤ PP.globals.size) (hc : CallsOk w0 call) (hx : ExtOk ext) (hd : DrawnOk w0 n dr ext call) : ∀ (c : Code), codeOk dr n c = true → ∀ (F : Fr) (H : Hp) (r : EX × Fr × Hp), codeE ext call c F H = some r →
    ∀ (E : En) (a : Act) (w : World), FRel E F a → Sim PP w0 E H w → c.wp PP (CQ w0 E r) a w := by
  intro c
  induction c with
  | skip =>
    intro _ F H r h E a w hF S
    have h : some (EX.normal, F, H) = some r := h
    obtain rfl := Option.some.inj h
    exact wp_skip ⟨rfl, E, En.le_refl E, hF, S⟩
  | region id ops d =>
    intro ho F H r h E a w hF S
    have ho : (allB (operOk n) ops.toList && (!d || dr ops.toList)) = true := ho
    have h : regionE ext call ops.toList d F H = some r := h
    simp only [Bool.and_eq_true] at ho
    have ho1 := allB_iff.1 ho.1
    cases d with
    | false =>
      unfold regionE at h
      simp only at h
      cases hsel : selOf ops.toList with
      | some q =>
        obtain ⟨d, s, rest⟩ := q
        simp only [hsel] at h
        obtain ⟨o, ho', hop, hgd, rfl⟩ := selOf_some hsel
        cases hs : selR ext call ops.toList o.dst s rest F H with
        | none => rw [hs] at h; cases h
        | some y =>
          obtain ⟨F1, H1⟩ := y
          rw [hs] at h
          obtain rfl := Option.some.inj h
          unfold selR at hs
          cases hse : selE F.t H s with
          | none => rw [hse] at hs; cases hs
          | some y =>
            obtain ⟨v, H'⟩ := y
            simp only [hse, fH_eq] at hs
            cases hput : F.put o.dst v with
            | none => rw [hput] at hs; cases hs
            | some F' =>
              simp only [hput] at hs
              have h0 : ops[0]? = some o := by rw [← Array.getElem?_toList, ho']; rfl
              obtain ⟨a', w', hstep, hF', hS'⟩ := sel_ok hn S hF h0 hop hgd (ho1 o (by rw [ho']; simp)) hse hput (List.range' 1 (ops.size - 1))
              have hsz : ops.size = rest.length + 1 := by rw [← Array.length_toList, ho']; rfl
              refine wp_region_first (by omega) hstep ?_
              have := seq_ok (Q := CQ w0 E (.normal, F1, H1)) hn hc hx rest 1 E F' H' a' w' (fun j => by rw [← Array.getElem?_toList, ho', Nat.add_comm, List.getElem?_cons_succ]) (fun x hx' => ho1 x (by rw [ho']; simp [hx'])) hs hF' hS' fun E' a' w' e1 e2 e3 => ⟨rfl, E', e1, e2, e3⟩
              rwa [show ops.size - 1 = rest.length by omega]
      | none =>
       simp only [hsel] at h
       cases hs : seqE ext call ops.toList ops.toList F H with
       | none => rw [hs] at h; cases h
       | some y =>
        obtain ⟨F1, H1⟩ := y
        rw [hs] at h
        obtain rfl := Option.some.inj h
        refine wp_region ?_
        have := seq_ok (Q := CQ w0 E (.normal, F1, H1)) hn hc hx ops.toList 0 E F H a w (fun j => by simp) ho1 hs hF S fun E' a' w' e1 e2 e3 => ⟨rfl, E', e1, e2, e3⟩
        rwa [Array.length_toList, ← List.range_eq_range'] at this
    | true =>
      unfold regionE at h
      simp only at h
      cases hp : plan ops.toList with
      | none => rw [hp] at h; cases h
      | some l =>
        simp only [hp] at h
        cases hs : anyE ext call ops.toList l ⟨0, [], [], F, H⟩ with
        | none => rw [hs] at h; cases h
        | some y =>
          obtain ⟨F1, H1⟩ := y
          rw [hs] at h
          obtain rfl := Option.some.inj h
          refine wp_region_any hm ?_
          exact hd ops ho1 (by simpa using ho.2) l F H F1 H1 hp hs E a _ _ hF (S.drew _) fun E' a' w' e1 e2 e3 => ⟨rfl, E', e1, e2, e3⟩
  | seq x y ihx ihy =>
    intro ho F H r h E a w hF S
    have ho : (codeOk dr n x && codeOk dr n y) = true := ho
    simp only [Bool.and_eq_true] at ho
    have h : thenE (codeE ext call x F H) (codeE ext call y) = some r := h
    refine wp_seq ?_
    cases hx1 : codeE ext call x F H with
    | none => rw [hx1] at h; cases h
    | some z =>
      obtain ⟨ex, F1, H1⟩ := z
      rw [hx1] at h
      refine wp_mono (ihx ho.1 F H _ hx1 E a w hF S) fun e a1 w1 hq => ?_
      obtain ⟨he, E1, e1, e2, e3⟩ := hq
      cases ex with
      | normal =>
        subst he
        exact wp_mono (ihy ho.2 F1 H1 r h E1 a1 w1 e2 e3) fun e a2 w2 hq => hq.mono e1
      | exit id =>
        subst he
        obtain rfl := Option.some.inj h
        exact ⟨rfl, E1, e1, e2, e3⟩
      | ret =>
        subst he
        obtain rfl := Option.some.inj h
        exact ⟨rfl, E1, e1, e2, e3⟩
  | cond q x y ihx ihy =>
    intro ho F H r h E a w hF S
    have ho : (opdOk n q && (codeOk dr n x && codeOk dr n y)) = true := ho
    simp only [Bool.and_eq_true] at ho
    have h : condE (opv F.t q) (codeE ext call x) (codeE ext call y) F H = some r := h
    have hq := (opd_ok hn S ho.1 (F := F.t) (a := a) fun d _ => hF.tmp d).1
    unfold condE at h
    split at h
    · rename_i t ht
      rw [ht] at hq
      cases t with
      | true => exact wp_cond_true hq (ihx ho.2.1 F H r h E a w hF S)
      | false => exact wp_cond_false hq (ihy ho.2.2 F H r h E a w hF S)
    · cases h
  | block id x ihx =>
    intro ho F H r h E a w hF S
    have h : blockE id (codeE ext call x F H) = some r := h
    refine wp_block ?_
    cases hx1 : codeE ext call x F H with
    | none => rw [hx1] at h; cases h
    | some z =>
      obtain ⟨ex, F1, H1⟩ := z
      rw [hx1] at h
      refine wp_mono (ihx ho F H _ hx1 E a w hF S) fun e a1 w1 hq => ?_
      obtain ⟨he, E1, e1, e2, e3⟩ := hq
      cases ex with
      | normal =>
        subst he
        obtain rfl := Option.some.inj h
        exact ⟨rfl, E1, e1, e2, e3⟩
      | exit j =>
        subst he
        have h : cond (Nat.beq j id) (some (EX.normal, F1, H1)) (some (EX.exit j, F1, H1)) = some r := h
        show if j = id then CQ w0 E r .normal a1 w1 else CQ w0 E r (.exit j) a1 w1
        cases hb : Nat.beq j id with
        | true =>
          rw [hb, cond_true] at h
          obtain rfl := Option.some.inj h
          rw [if_pos (Nat.eq_of_beq_eq_true hb)]
          exact ⟨rfl, E1, e1, e2, e3⟩
        | false =>
          rw [hb, cond_false] at h
          obtain rfl := Option.some.inj h
          rw [if_neg (Nat.ne_of_beq_eq_false hb)]
          exact ⟨rfl, E1, e1, e2, e3⟩
      | ret =>
        subst he
        obtain rfl := Option.some.inj h
        exact ⟨rfl, E1, e1, e2, e3⟩
  | loop x ihx =>
    intro ho F H r h E a w hF S
    have h : loopE (codeE ext call x) 100000 F H = some r := h
    revert h
    generalize 100000 = m
    intro h
    refine wp_loop_n (R := fun m a w => ∃ E' F H, E.le E' ∧ FRel E' F a ∧ Sim PP w0 E' H w ∧ loopE (codeE ext call x) m F H = some r) (fun a w hR => ?_) (fun m a w hR => ?_) (n := m) ⟨E, F, H, En.le_refl E, hF, S, h⟩
    · obtain ⟨_, _, _, _, _, _, h⟩ := hR
      cases h
    · obtain ⟨E1, F, H, e1, e2, e3, h⟩ := hR
      rw [loopE_succ] at h
      cases hx1 : codeE ext call x F H with
      | none => rw [hx1] at h; cases h
      | some z =>
        obtain ⟨ex, F1, H1⟩ := z
        rw [hx1] at h
        refine wp_mono (ihx ho F H _ hx1 E1 a w e2 e3) fun e a1 w1 hq => ?_
        obtain ⟨he, E2, f1, f2, f3⟩ := hq
        cases ex with
        | normal => subst he; exact ⟨E2, F1, H1, En.le_trans e1 f1, f2, f3, h⟩
        | exit j =>
          subst he
          obtain rfl := Option.some.inj h
          exact ⟨rfl, E2, En.le_trans e1 f1, f2, f3⟩
        | ret =>
          subst he
          obtain rfl := Option.some.inj h
          exact ⟨rfl, E2, En.le_trans e1 f1, f2, f3⟩
  | rangeFunc q ps x y ihx ihy => intro ho; cases ho
  | exit id =>
    intro _ F H r h E a w hF S
    have h : some (EX.exit id, F, H) = some r := h
    obtain rfl := Option.some.inj h
    exact wp_exit ⟨rfl, E, En.le_refl E, hF, S⟩
  | scope x ihx =>
    intro ho F H r h E a w hF S
    refine wp_scope_straight (wp_mono (ihx ho F H r h E a w hF S) fun e a1 w1 hq => ?_)
    have hne : ∀ l, e ≠ .goto l := fun l hl => by
      obtain ⟨he, _⟩ := hq
      rw [hl] at he
      obtain ⟨ex, _⟩ := r
      cases ex <;> cases he
    cases e with
    | goto l => exact absurd rfl (hne l)
    | _ => exact hq
  | label l =>
    intro _ F H r h E a w hF S
    have h : some (EX.normal, F, H) = some r := h
    obtain rfl := Option.some.inj h
    exact wp_label ⟨rfl, E, En.le_refl E, hF, S⟩
  | goto l => intro _ F H r h; cases h
  | ret =>
    intro _ F H r h E a w hF S
    have h : some (EX.ret, F, H) = some r := h
    obtain rfl := Option.some.inj h
    exact wp_ret ⟨rfl, E, En.le_refl E, hF, S⟩
  | refuse y => intro _ F H r h; cases h
end
end Go.Proofs.YtgjabfpkbcdkcaaGreatDoor
