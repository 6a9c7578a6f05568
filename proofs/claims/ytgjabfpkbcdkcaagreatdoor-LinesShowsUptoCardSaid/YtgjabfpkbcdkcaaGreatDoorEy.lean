/- Plans of regions whose order is drawn: steps. -/
import Derived.Test.YtgjabfpkbcdkcaaGreatDoorEx
namespace Go.Proofs.YtgjabfpkbcdkcaaGreatDoor
set_option linter.unusedVariables false
set_option linter.unusedSimpArgs false
section
theorem veqL_ok {f : Value → Value → Bool} (hf : ∀ a b, f a b = true → a = b) : ∀ l m : List Value, veqL f l m = true → l = m := by
  intro l
  induction l with
  | nil => intro m h; cases m with | nil => rfl | cons b m => cases h
  | cons a l ih =>
    intro m h
    cases m with
    | nil => cases h
    | cons b m =>
      have h : cond (f a b) (veqL f l m) false = true := h
      cases hb : f a b with
      | false => rw [hb] at h; cases h
      | true => rw [hb, cond_true] at h; rw [hf a b hb, ih m h]
theorem veqN_ok : ∀ (d : Nat) (v w : Value), veqN d v w = true → v = w := by
  intro d
  induction d with
  | zero => intro v w h; cases h
  | succ d ih =>
    have hl : ∀ a b : Array Value, veqL (veqN d) a.toList b.toList = true → a = b := fun a b h => Array.ext' (veqL_ok ih _ _ h)
    intro v w h
    cases v with
    | bool a => cases w with
      | bool b => have h : (a == b) = true := h; rw [eq_of_beq h]
      | _ => cases h
    | int k a => cases w with
      | int j b => have h : (decide (k = j) && decide (a = b)) = true := h; simp only [Bool.and_eq_true, decide_eq_true_eq] at h; rw [h.1, h.2]
      | _ => cases h
    | float k a => cases h
    | complex k a b => cases h
    | string a => cases w with
      | string b =>
        have h : decide (a.data.toList = b.data.toList) = true := h
        simp only [decide_eq_true_eq] at h
        have : a.data = b.data := Array.ext' h
        obtain ⟨a⟩ := a
        obtain ⟨b⟩ := b
        have this : a = b := this
        rw [this]
      | _ => cases h
    | pointer a => cases w with
      | pointer b => have h : decide (a = b) = true := h; rw [of_decide_eq_true h]
      | _ => cases h
    | slice a n c => cases w with
      | slice b m e =>
        have h : (decide (a = b) && Nat.beq n m && Nat.beq c e) = true := h
        simp only [Bool.and_eq_true, decide_eq_true_eq] at h
        rw [h.1.1, Nat.eq_of_beq_eq_true h.1.2, Nat.eq_of_beq_eq_true h.2]
      | _ => cases h
    | map a => cases w with
      | map b => have h : decide (a = b) = true := h; rw [of_decide_eq_true h]
      | _ => cases h
    | chan a => cases w with
      | chan b => have h : decide (a = b) = true := h; rw [of_decide_eq_true h]
      | _ => cases h
    | nilFunc => cases w with
      | nilFunc => rfl
      | _ => cases h
    | nilIface => cases w with
      | nilIface => rfl
      | _ => cases h
    | iface t a => cases w with
      | iface u b =>
        have h : (Nat.beq t u && veqN d a b) = true := h
        simp only [Bool.and_eq_true] at h
        rw [Nat.eq_of_beq_eq_true h.1, ih a b h.2]
      | _ => cases h
    | func f a b => cases w with
      | func g c e =>
        have h : (decide (f = g) && veqL (veqN d) a.toList c.toList && veqL (veqN d) b.toList e.toList) = true := h
        simp only [Bool.and_eq_true, decide_eq_true_eq] at h
        rw [h.1.1, hl a c h.1.2, hl b e h.2]
      | _ => cases h
    | agg a => cases w with
      | agg b => rw [hl a b h]
      | _ => cases h
    | tuple a => cases w with
      | tuple b => rw [hl a b h]
      | _ => cases h
end
section
variable {ops : Array Oper} {m LU DU : Nat} {seen : List (Nat × OI)} {s : St} {listed : Array Bool} {V0 V V' : Nat → Option AO} {w1 : Wo} {w w' : World} {w0 : Base} {E E' : En} {a : Act} {F F' : Fr} {H H' : Hp} {i n : Nat} {o : Oper} {v : Value}
theorem unv1_ok (S : Sim PP w0 E H w) {id : Nat} (h : (E id).isSome = true) : Sim PP w0 E (unv1 id (H.t.get id) H) w ∧ HLe H (unv1 id (H.t.get id) H) := by
  obtain ⟨x, hx⟩ := Option.isSome_iff_exists.1 h
  have keep : Sim PP w0 E H w ∧ HLe H H := ⟨S, HLe.refl H⟩
  cases hg : H.t.get id with
  | none => exact keep
  | some o =>
    cases o with
    | virt q =>
      have hob := S.obj id _ hg
      rcases hob with hn | hb
      · rw [hx] at hn; cases hn
      · refine ⟨S.say hg ?_ (S.noV hx), fun k o hv hk => ?_⟩
        · cases q with
          | virt q => obtain ⟨b, c, _, _, h3⟩ := hb; exact h3.elim
          | _ => exact hb
        · show (H.put id q).t.get k = some o
          rw [Hp.put_get, if_neg]
          · exact hk
          · rintro rfl
            rw [hg] at hk
            obtain rfl := Option.some.inj hk
            exact hv q rfl
    | _ => exact keep
theorem unvE_ok {dm : Nat} : ∀ (fl : List (Nat × Nat)) (H : Hp), Sim PP w0 E H w → (∀ p ∈ fl, dm.testBit p.1 = true → (E p.2).isSome = true) → Sim PP w0 E (unvE dm fl H) w ∧ HLe H (unvE dm fl H) := by
  intro fl
  induction fl with
  | nil => intro H S _; exact ⟨S, HLe.refl H⟩
  | cons p fl ih =>
    intro H S h
    have hc : unvE dm (p :: fl) H = cond (Nat.beq (Nat.land (Nat.shiftRight dm p.1) 1) 1) (fH (unv1 p.2 (H.t.get p.2) H) fun H => unvE dm fl H) (unvE dm fl H) := rfl
    rw [hc, bit1, fH_eq]
    cases hb : dm.testBit p.1 with
    | false => exact ih H S fun q hq => h q (by simp [hq])
    | true =>
      obtain ⟨h1, h2⟩ := unv1_ok S (h p (by simp) hb)
      obtain ⟨h3, h4⟩ := ih _ h1 fun q hq => h q (by simp [hq])
      exact ⟨h3, h2.trans h4⟩
theorem unvAll_ok : ∀ (fl : List (Nat × Nat)) (H : Hp), Sim PP w0 E H w → (∀ p ∈ fl, (E p.2).isSome = true) → Sim PP w0 E (unvAll fl H) w := by
  intro fl
  induction fl with
  | nil => intro H S _; exact S
  | cons p fl ih =>
    intro H S h
    have hc : unvAll (p :: fl) H = fH (unv1 p.2 (H.t.get p.2) H) fun H => unvAll fl H := rfl
    rw [hc, fH_eq]
    exact ih _ (unv1_ok S (h p (by simp))).1 fun q hq => h q (by simp [hq])
/-- a block that was made ahead of its time is made -/
theorem Sim.float (S : Sim PP ⟨w1, V⟩ E H w) {id c : Nat} {ob : AO} (hV : V id = some ob) (co : Obj) (hv : ∀ q, ob ≠ .virt q) (hr : CRel PP (E.add id (w.heap.size, c)) (w.alloc co) w.heap.size c ob) :
    Sim PP ⟨w1, fun j => if j = id then none else V j⟩ (E.add id (w.heap.size, c)) H (w.alloc co) ∧ E.le (E.add id (w.heap.size, c)) := by
  obtain ⟨p1, p2⟩ := S.pend id ob hV
  have hle := En.add_le (x := (w.heap.size, c)) p1
  have ho : (w.alloc co).heap = w.heap.push co := rfl
  have hold : ∀ k, k < w.heap.size → (w.alloc co).heap[k]? = w.heap[k]? := fun k hk => by rw [ho, Array.getElem?_push]; rw [if_neg (by omega)]
  have hself : (E.add id (w.heap.size, c)) id = some (w.heap.size, c) := if_pos rfl
  have hEid : ∀ j, j ≠ id → E.add id (w.heap.size, c) j = E j := fun j h => if_neg h
  have hsz : w1.heap.size ≤ w.heap.size := S.size
  refine ⟨⟨S.os, S.tape, S.out, by show w1.heap.size ≤ _; rw [ho]; simp; omega, fun b hb => by have hb1 : b < w1.heap.size := hb.1; rw [hold b (by omega)]; exact S.old b hb, fun g hg => hle _ _ (S.glob g hg), ?_, S.tl, ?_, ?_, ?_⟩, hle⟩
  · intro j x hx
    by_cases h : j = id
    · subst h; exact S.tl _ _ p2
    · rw [hEid j h] at hx; exact S.lt _ _ hx
  · intro j q hq
    by_cases h : j = id
    · subst h
      rw [p2] at hq
      obtain rfl := Option.some.inj hq
      rw [hself]
      exact .inr ⟨w.heap.size, c, rfl, fun hk => by have : w.heap.size < w1.heap.size := hk.1; omega, hr⟩
    · rw [hEid j h]
      have h1 := S.obj j q hq
      exact (h1.le hle).keep fun b c hx => hold b (h1.lt hx).2
  · intro j j' q q' b c1 c2 h1 h2 h3 h4
    by_cases e1 : j = id
    · by_cases e2 : j' = id
      · rw [e1, e2]
      · rw [hEid j' e2] at h4
        subst e1
        have := ((S.obj j' q' h2).lt h4).2
        rw [hself] at h3
        simp at h3
        omega
    · rw [hEid j e1] at h3
      by_cases e2 : j' = id
      · subst e2
        have := ((S.obj j q h1).lt h3).2
        rw [hself] at h4
        simp at h4
        omega
      · rw [hEid j' e2] at h4
        exact S.inj j j' q q' b c1 c2 h1 h2 h3 h4
  · intro j ob' hj
    have hne : j ≠ id := by
      rintro rfl
      simp at hj
    have hj : (if j = id then none else V j) = some ob' := hj
    rw [if_neg hne] at hj
    rw [hEid j hne]
    exact S.pend j ob' hj
section
variable {ext : FuncId → Option (List Value → Option Value)} {call : FuncId → List Value → Hp → Option (Value × Hp)} {Q : Exit → Act → World → Prop} {K : Act → World → Prop}
/-- the operands of one that was taken, or is the only one -/
theorem Inv.opd (I : Inv ops m LU DU seen s listed V0 V w1 E a w) (hn : n ≤ PP.globals.size) (hok : operOk n o = true) (h : ∀ d, Sees ops o d → ∀ j o', Miss m listed j → ops[j]? = some o' → o'.dst ≠ some d) :
    Opd E s.F.t a.eval o.op ∧ Region.wanted o (yielded ops a.tmps) = wantE ops.toList o s.F.t := by
  refine ⟨fun x hx => opd_ok hn I.sim (allB_iff.1 hok x hx) fun d hd => I.tmp d (h d (.inl (by rw [← hd]; exact hx))), ?_⟩
  exact want_ok (E := E) fun j b o' d hg hj hd => (I.tmp d (h d (.inr ⟨j, b, o', hg, hj, hd⟩))).1
theorem Inv.come (I : Inv ops m LU DU seen s listed V0 V w1 E a w) (hn : n ≤ PP.globals.size) (hok : operOk n o = true) (ho : ops[i]? = some o) (hi : Miss m listed i) (hw : ∀ j, Waits o j → Lst listed j)
    (hK : ∀ E' V' a' w', E.le E' → Inv ops m LU DU seen s (listed.setIfInBounds i true) V0 V' w1 E' a' w' → K a' w') : wpOp PP ops Q i K a w := by
  obtain ⟨hρ, hwant⟩ := I.opd hn hok fun d hd j o' hj ho' hdd => hj.2 (hw j (I.opr i j o o' d hi ho hd hj.1 ho' hdd))
  obtain ⟨_, hrec⟩ := I.rc i o hi ho
  have hnf : ∀ p ∈ s.fl, p.1 = i → (∃ ob, V p.2 = some ob) := fun p hp h => (I.flm p hp).elim (fun hl => by rw [h] at hl; exact absurd hl hi.2) id
  unfold wpOp
  simp only [ho]
  rw [hwant]
  rcases hrec with ⟨h1, h6, h2⟩ | ⟨h1, h2, h3, h6, x, h4, h5⟩ | ⟨h1, id, ob, mk, h2, h6, h3, h4, h5⟩
  · rw [h1, if_neg (by simp)]
    exact hK E V _ w (En.le_refl E) (I.real ho hi hw (En.le_refl E) h2 ⟨⟩ I.sim I.v0 (fun _ _ _ => rfl) fun p hp h => absurd h (h6 p hp))
  · rw [h1, if_pos rfl]
    left
    have hop := evalOp_ok I.sim hρ
    rw [h4] at hop
    unfold Oper.wp
    rw [hop.1]
    exact hK E V _ w (En.le_refl E) (I.real ho hi hw (En.le_refl E) h5 hop.2 I.sim I.v0 (fun _ _ _ => rfl) fun p hp h => absurd h (h6 p hp))
  · rw [h1, if_pos rfl]
    left
    obtain ⟨p1, p2⟩ := I.sim.pend id ob h4
    obtain ⟨dst, op, ty, pos, af, gd⟩ := o
    obtain ⟨co, c, r1, r2, r3, r4⟩ := new_ok (dst := dst) (ty := ty) (pos := pos) (af := af) (gd := gd) h3 hρ id p1 w
    obtain ⟨f1, f2⟩ := I.sim.float h4 co r3 r2
    unfold Oper.wp
    rw [r1]
    refine hK _ _ _ _ f2 (I.real ho hi hw f2 h5 r4 f1 (fun k ob' hk => ?_) (fun p hp hpi => ?_) fun p hp hpi => ?_)
    · have : k ≠ id := by
        rintro rfl
        have := I.fresh _ h2
        rw [hk] at this
        cases this
      show (if k = id then none else V k) = some ob'
      rw [if_neg this]
      exact I.v0 k ob' hk
    · show (if p.2 = id then none else V p.2) = V p.2
      rw [if_neg]
      intro hid
      have := I.fid p (i, id) hp h2 hid
      rw [this] at hpi
      exact hpi rfl
    · rw [h6 p hp hpi]
      have : (E.add id (w.heap.size, c)) id = some (w.heap.size, c) := if_pos rfl
      rw [this]
      rfl
end
end
end Go.Proofs.YtgjabfpkbcdkcaaGreatDoor
