/- Plans of regions whose order is drawn: what the bits say. -/
import Derived.Test.YtgjabfpkbcdkcaaGreatDoorEt
namespace Go.Proofs.YtgjabfpkbcdkcaaGreatDoor
set_option linter.unusedVariables false
set_option linter.unusedSimpArgs false
theorem tb_or (a b i : Nat) : (Nat.lor a b).testBit i = (a.testBit i || b.testBit i) := Nat.testBit_or a b i
theorem tb_and (a b i : Nat) : (Nat.land a b).testBit i = (a.testBit i && b.testBit i) := Nat.testBit_and a b i
theorem tb_one (k i : Nat) : (Nat.shiftLeft 1 k).testBit i = decide (k = i) := by
  have : Nat.shiftLeft 1 k = 2 ^ k := Nat.one_shiftLeft k
  rw [this, Nat.testBit_two_pow]
theorem bit_eq (m i : Nat) : Nat.land (Nat.shiftRight m i) 1 = if m.testBit i then 1 else 0 := by
  have h : Nat.land (Nat.shiftRight m i) 1 = (m >>> i) % 2 := Nat.and_one_is_mod (m >>> i)
  rw [h, Nat.testBit_eq_decide_div_mod_eq, Nat.shiftRight_eq_div_pow]
  by_cases h1 : m / 2 ^ i % 2 = 1
  · simp [h1]
  · have : m / 2 ^ i % 2 = 0 := by omega
    simp [this]
theorem bit1 {m i : Nat} : Nat.beq (Nat.land (Nat.shiftRight m i) 1) 1 = m.testBit i := by
  rw [bit_eq]; cases m.testBit i <;> rfl
theorem bit0 {m i : Nat} : Nat.beq (Nat.land (Nat.shiftRight m i) 1) 0 = !m.testBit i := by
  rw [bit_eq]; cases m.testBit i <;> rfl
theorem sub_bits {a m : Nat} (h : Nat.beq (Nat.land a m) a = true) {i : Nat} (hi : a.testBit i = true) : m.testBit i = true := by
  have h := Nat.eq_of_beq_eq_true h
  rw [← h, tb_and, Bool.and_eq_true] at hi
  exact hi.2
theorem sub_of_bits {a m : Nat} (h : ∀ i, a.testBit i = true → m.testBit i = true) : Nat.beq (Nat.land a m) a = true := by
  have : Nat.land a m = a := by
    apply Nat.eq_of_testBit_eq
    intro i
    rw [tb_and]
    cases ha : a.testBit i with
    | false => rfl
    | true => rw [h i ha]; rfl
  rw [this]
  exact Nat.beq_refl a
theorem dis_bits {a b : Nat} (h : Nat.beq (Nat.land a b) 0 = true) {i : Nat} (h1 : a.testBit i = true) (h2 : b.testBit i = true) : False := by
  have h := Nat.eq_of_beq_eq_true h
  have : (Nat.land a b).testBit i = true := by rw [tb_and, h1, h2]; rfl
  rw [h, Nat.zero_testBit] at this
  cases this
section
variable {ops : Array Oper}
/-- it waits for the operation -/
def Waits (o : Oper) (j : Nat) : Prop := ∃ e ∈ o.after.toList, Region.binds .any e = true ∧ e.on = j
/-- it sees the temporary -/
def Sees (ops : Array Oper) (o : Oper) (d : Nat) : Prop := Operand.tmp d ∈ opsL o.op ∨ ∃ g b o', o.guard = some (g, b) ∧ ops[g]? = some o' ∧ o'.dst = some d
theorem bitOf_iff {x : Option Tmp} {d : Nat} : (bitOf x).testBit d = true ↔ x = some d := by
  cases x with
  | none => simp [bitOf]
  | some y => simp only [bitOf, tb_one, decide_eq_true_eq, Option.some.injEq]
theorem dstOf_iff {j d : Nat} : (dstOf ops.toList j).testBit d = true ↔ ∃ o', ops[j]? = some o' ∧ o'.dst = some d := by
  unfold dstOf
  rw [nth_eq, Array.getElem?_toList]
  cases ops[j]? with
  | none => simp
  | some o => simp only [bitOf_iff]; exact ⟨fun h => ⟨o, rfl, h⟩, fun ⟨o', h1, h2⟩ => by obtain rfl := Option.some.inj h1; exact h2⟩
theorem afterM_iff : ∀ (l : List Edge) (s j : Nat), (afterM l s).testBit j = true ↔ s.testBit j = true ∨ ∃ e ∈ l, Region.binds .any e = true ∧ e.on = j := by
  intro l
  induction l with
  | nil => intro s j; exact ⟨fun h => .inl h, fun h => h.elim id fun ⟨e, he, _⟩ => absurd he (by simp)⟩
  | cons e l ih =>
    intro s j
    have hc : afterM (e :: l) s = cond (Region.binds .any e) (afterM l (Nat.lor s (Nat.shiftLeft 1 e.on))) (afterM l s) := rfl
    rw [hc]
    cases hb : Region.binds .any e with
    | false =>
      rw [cond_false, ih]
      refine or_congr Iff.rfl ⟨fun ⟨x, hx, h⟩ => ⟨x, by simp [hx], h⟩, fun ⟨x, hx, h⟩ => ?_⟩
      rcases List.mem_cons.1 hx with rfl | hx
      · rw [hb] at h; cases h.1
      · exact ⟨x, hx, h⟩
    | true =>
      rw [cond_true, ih, tb_or, tb_one, Bool.or_eq_true, decide_eq_true_eq]
      constructor
      · rintro ((h | h) | ⟨x, hx, h⟩)
        · exact .inl h
        · exact .inr ⟨e, by simp, hb, h⟩
        · exact .inr ⟨x, by simp [hx], h⟩
      · rintro (h | ⟨x, hx, h1, h2⟩)
        · exact .inl (.inl h)
        · rcases List.mem_cons.1 hx with rfl | hx
          · exact .inl (.inr h2)
          · exact .inr ⟨x, hx, h1, h2⟩
theorem afterD_iff : ∀ (l : List Edge) (s d : Nat), (afterD ops.toList l s).testBit d = true ↔ s.testBit d = true ∨ ∃ e ∈ l, Region.binds .any e = true ∧ ∃ o', ops[e.on]? = some o' ∧ o'.dst = some d := by
  intro l
  induction l with
  | nil => intro s j; exact ⟨fun h => .inl h, fun h => h.elim id fun ⟨e, he, _⟩ => absurd he (by simp)⟩
  | cons e l ih =>
    intro s j
    have hc : afterD ops.toList (e :: l) s = cond (Region.binds .any e) (afterD ops.toList l (Nat.lor s (dstOf ops.toList e.on))) (afterD ops.toList l s) := rfl
    rw [hc]
    cases hb : Region.binds .any e with
    | false =>
      rw [cond_false, ih]
      refine or_congr Iff.rfl ⟨fun ⟨x, hx, h⟩ => ⟨x, by simp [hx], h⟩, fun ⟨x, hx, h⟩ => ?_⟩
      rcases List.mem_cons.1 hx with rfl | hx
      · rw [hb] at h; cases h.1
      · exact ⟨x, hx, h⟩
    | true =>
      rw [cond_true, ih, tb_or, Bool.or_eq_true, dstOf_iff]
      constructor
      · rintro ((h | h) | ⟨x, hx, h⟩)
        · exact .inl h
        · exact .inr ⟨e, by simp, hb, h⟩
        · exact .inr ⟨x, by simp [hx], h⟩
      · rintro (h | ⟨x, hx, h1, h2⟩)
        · exact .inl (.inl h)
        · rcases List.mem_cons.1 hx with rfl | hx
          · exact .inl (.inr h2)
          · exact .inr ⟨x, hx, h1, h2⟩
theorem bitsOf_iff : ∀ (l : List Operand) (s d : Nat), (bitsOf l s).testBit d = true ↔ s.testBit d = true ∨ Operand.tmp d ∈ l := by
  intro l
  induction l with
  | nil => intro s d; exact ⟨fun h => .inl h, fun h => h.elim id fun h => absurd h (by simp)⟩
  | cons x l ih =>
    intro s d
    cases x with
    | tmp t =>
      have hc : bitsOf (.tmp t :: l) s = bitsOf l (Nat.lor s (Nat.shiftLeft 1 t)) := rfl
      rw [hc, ih, tb_or, tb_one, Bool.or_eq_true, decide_eq_true_eq]
      simp only [List.mem_cons, Operand.tmp.injEq]
      constructor
      · rintro ((h | h) | h)
        · exact .inl h
        · exact .inr (.inl h.symm)
        · exact .inr (.inr h)
      · rintro (h | h | h)
        · exact .inl (.inl h)
        · exact .inl (.inr h.symm)
        · exact .inr h
    | const v => have hc : bitsOf (.const v :: l) s = bitsOf l s := rfl; rw [hc, ih]; simp
    | global g => have hc : bitsOf (.global g :: l) s = bitsOf l s := rfl; rw [hc, ih]; simp
    | func f => have hc : bitsOf (.func f :: l) s = bitsOf l s := rfl; rw [hc, ih]; simp
theorem am_iff {o : Oper} {j : Nat} : (infoOf ops.toList o).am.testBit j = true ↔ Waits o j := by
  show (afterM o.after.toList 0).testBit j = true ↔ _
  rw [afterM_iff]; simp [Waits]
theorem dm_iff {o : Oper} {d : Nat} : (infoOf ops.toList o).dm.testBit d = true ↔ o.dst = some d := bitOf_iff
theorem ad_iff {o : Oper} {d : Nat} : (infoOf ops.toList o).ad.testBit d = true ↔ ∃ j o', Waits o j ∧ ops[j]? = some o' ∧ o'.dst = some d := by
  show (afterD ops.toList o.after.toList 0).testBit d = true ↔ _
  rw [afterD_iff]
  simp only [Nat.zero_testBit, Bool.false_eq_true, false_or, Waits]
  exact ⟨fun ⟨e, h1, h2, o', h3, h4⟩ => ⟨e.on, o', ⟨e, h1, h2, rfl⟩, h3, h4⟩, fun ⟨j, o', ⟨e, h1, h2, h5⟩, h3, h4⟩ => ⟨e, h1, h2, o', by rw [h5]; exact h3, h4⟩⟩
theorem lm_iff {o : Oper} {d : Nat} : (infoOf ops.toList o).lm.testBit d = true ↔ Sees ops o d := by
  show (bitsOf (opsL o.op) (match o.guard with | some (g, _) => dstOf ops.toList g | none => 0)).testBit d = true ↔ _
  rw [bitsOf_iff]
  unfold Sees
  cases hg : o.guard with
  | none => simp
  | some y =>
    obtain ⟨g, b⟩ := y
    simp only [dstOf_iff, Option.some.injEq, Prod.mk.injEq]
    constructor
    · rintro (⟨o', h1, h2⟩ | h)
      · exact .inr ⟨g, b, o', ⟨rfl, rfl⟩, h1, h2⟩
      · exact .inl h
    · rintro (h | ⟨g', b', o', ⟨rfl, rfl⟩, h1, h2⟩)
      · exact .inr h
      · exact .inl ⟨o', h1, h2⟩
theorem is_iff {i : Nat} {c : OI} : (mp (infoOf ops.toList) ops.toList)[i]? = some c ↔ ∃ o, ops[i]? = some o ∧ c = infoOf ops.toList o := by
  rw [mp_eq, List.getElem?_map, Array.getElem?_toList]
  cases ops[i]? with
  | none => simp
  | some o => simp only [Option.map_some, Option.some.injEq]; exact ⟨fun h => ⟨o, rfl, h.symm⟩, fun ⟨o', h1, h2⟩ => by obtain rfl := h1; exact h2.symm⟩
theorem rdyI_iff {m : Nat} : ∀ (l : List OI) (k i : Nat) (c : OI), (i, c) ∈ rdyI m l k ↔ ∃ j, i = k + j ∧ l[j]? = some c ∧ m.testBit i = false ∧ Nat.beq (Nat.land c.am m) c.am = true := by
  intro l
  induction l with
  | nil => intro k i c; exact ⟨fun h => absurd h (by simp [rdyI]), fun ⟨j, _, h, _⟩ => by simp at h⟩
  | cons c' l ih =>
    intro k i c
    have hc : rdyI m (c' :: l) k = cond (Nat.beq (Nat.land (Nat.shiftRight m k) 1) 0) (cond (Nat.beq (Nat.land c'.am m) c'.am) (cons (k, c') (rdyI m l (Nat.succ k))) (rdyI m l (Nat.succ k))) (rdyI m l (Nat.succ k)) := rfl
    have hcons : cons (k, c') (rdyI m l (Nat.succ k)) = (k, c') :: rdyI m l (Nat.succ k) := by cases rdyI m l (Nat.succ k) <;> rfl
    rw [hc, bit0, hcons]
    have hrest : (i, c) ∈ rdyI m l (Nat.succ k) ↔ ∃ j, i = k + (j + 1) ∧ l[j]? = some c ∧ m.testBit i = false ∧ Nat.beq (Nat.land c.am m) c.am = true := by
      rw [ih]
      exact ⟨fun ⟨j, h⟩ => ⟨j, by rw [h.1]; simp only [Nat.succ_eq_add_one]; omega, h.2⟩, fun ⟨j, h⟩ => ⟨j, by rw [h.1]; simp only [Nat.succ_eq_add_one]; omega, h.2⟩⟩
    have hall : (∃ j, i = k + j ∧ (c' :: l)[j]? = some c ∧ m.testBit i = false ∧ Nat.beq (Nat.land c.am m) c.am = true) ↔ (i = k ∧ c' = c ∧ m.testBit i = false ∧ Nat.beq (Nat.land c.am m) c.am = true) ∨ (i, c) ∈ rdyI m l (Nat.succ k) := by
      rw [hrest]
      constructor
      · rintro ⟨j, h1, h2, h3⟩
        cases j with
        | zero => exact .inl ⟨by omega, by simpa using h2, h3⟩
        | succ j => exact .inr ⟨j, h1, by simpa using h2, h3⟩
      · rintro (⟨h1, h2, h3⟩ | ⟨j, h1, h2, h3⟩)
        · exact ⟨0, by omega, by simpa using h2, h3⟩
        · exact ⟨j + 1, h1, by simpa using h2, h3⟩
    rw [hall]
    cases hb : m.testBit k with
    | true =>
      rw [Bool.not_true, cond_false]
      exact ⟨fun h => .inr h, fun h => h.elim (fun ⟨h1, _, h3, _⟩ => by subst h1; rw [hb] at h3; cases h3) id⟩
    | false =>
      rw [Bool.not_false, cond_true]
      cases ha : Nat.beq (Nat.land c'.am m) c'.am with
      | false =>
        rw [cond_false]
        exact ⟨fun h => .inr h, fun h => h.elim (fun ⟨_, h2, _, h4⟩ => by subst h2; rw [ha] at h4; cases h4) id⟩
      | true =>
        rw [cond_true, List.mem_cons]
        refine or_congr ⟨fun h => ?_, fun ⟨h1, h2, _⟩ => by rw [h1, h2]⟩ Iff.rfl
        obtain ⟨rfl, rfl⟩ := Prod.mk.inj h
        exact ⟨rfl, rfl, hb, ha⟩
/-- what is ready in the plan -/
theorem rdy_iff {m i : Nat} {c : OI} : (i, c) ∈ rdyI m (mp (infoOf ops.toList) ops.toList) 0 ↔ ∃ o, ops[i]? = some o ∧ c = infoOf ops.toList o ∧ m.testBit i = false ∧ ∀ j, Waits o j → m.testBit j = true := by
  rw [rdyI_iff]
  constructor
  · rintro ⟨j, rfl, h1, h2, h3⟩
    obtain ⟨o, ho, rfl⟩ := is_iff.1 h1
    rw [Nat.zero_add] at h2 ⊢
    exact ⟨o, ho, rfl, h2, fun j hj => sub_bits h3 (am_iff.2 hj)⟩
  · rintro ⟨o, ho, rfl, h2, h3⟩
    exact ⟨i, by omega, is_iff.2 ⟨o, ho, rfl⟩, h2, sub_of_bits fun j hj => h3 j (am_iff.1 hj)⟩
/-- what is ready in the region -/
theorem ready_iff {listed : Array Bool} {i : Nat} : i ∈ Region.ready .any ops listed ↔ ∃ o, ops[i]? = some o ∧ listed.getD i true = false ∧ ∀ j, Waits o j → listed.getD j false = true := by
  unfold Region.ready
  simp only [List.mem_filter, List.mem_range, Bool.and_eq_true, Bool.not_eq_true']
  constructor
  · rintro ⟨h1, h2, h3⟩
    have ho : ops[i]? = some ops[i] := Array.getElem?_eq_getElem h1
    rw [ho, Option.map_some, Option.getD_some, Array.all_eq_true_iff_forall_mem] at h3
    refine ⟨_, ho, h2, fun j ⟨e, he, hb, hj⟩ => ?_⟩
    have := h3 e (Array.mem_toList_iff.1 he)
    rw [hb, Bool.not_true, Bool.false_or, hj] at this
    exact this
  · rintro ⟨o, ho, h2, h3⟩
    refine ⟨(Array.getElem?_eq_some_iff.1 ho).1, h2, ?_⟩
    rw [ho, Option.map_some, Option.getD_some, Array.all_eq_true_iff_forall_mem]
    intro e he
    cases hb : Region.binds .any e with
    | false => rfl
    | true => rw [h3 e.on ⟨e, Array.mem_toList_iff.2 he, hb, rfl⟩]; rfl
theorem firstIs_some {p : Op → Bool} {l : List (Nat × OI)} {x : Nat × OI} (h : firstIs p l = some x) : x ∈ l ∧ p x.2.o.op = true := by
  induction l with
  | nil => cases h
  | cons c l ih =>
    have hc : firstIs p (c :: l) = cond (p c.2.o.op) (some c) (firstIs p l) := rfl
    rw [hc] at h
    cases hp : p c.2.o.op with
    | true => rw [hp, cond_true] at h; obtain rfl := Option.some.inj h; exact ⟨by simp, hp⟩
    | false => rw [hp, cond_false] at h; obtain ⟨h1, h2⟩ := ih h; exact ⟨by simp [h1], h2⟩
theorem pick_some {anc : List Nat} {r : List (Nat × OI)} {LU DU : Nat} {seen : List (Nat × OI)} {i k a : Nat} {c : OI} (h : pickL anc r LU DU seen = some (i, c, k, a)) :
    (i, c) ∈ r ∧ pairOk c LU DU = true ∧ ((k = 2 ∧ r = [(i, c)] ∧ a = nthN anc i ∧ (Nat.beq (Nat.land c.dm LU) 0 = true ∨ warOk c.dm (nthN anc i) seen = true)) ∨
      (k = 0 ∧ quietOp c.o.op = true ∧ Nat.beq (Nat.land c.dm (Nat.lor LU c.lm)) 0 = true) ∨ (k = 1 ∧ Nat.beq (Nat.land c.dm (Nat.lor LU c.lm)) 0 = true)) := by
  unfold pickL at h
  split at h
  · rename_i i' c'
    cases hb : (pairOk c' LU DU && (Nat.beq (Nat.land c'.dm LU) 0 || warOk c'.dm (nthN anc i') seen)) with
    | false => rw [hb] at h; cases h
    | true =>
      rw [hb, cond_true] at h
      simp only [Option.some.injEq, Prod.mk.injEq] at h
      obtain ⟨rfl, rfl, rfl, rfl⟩ := h
      simp only [Bool.and_eq_true, Bool.or_eq_true] at hb
      exact ⟨by simp, hb.1, .inl ⟨rfl, rfl, rfl, hb.2⟩⟩
  · split at h
    · rename_i i' c' hf
      obtain ⟨h1, h2⟩ := firstIs_some hf
      cases hb : (pairOk c' LU DU && Nat.beq (Nat.land c'.dm (Nat.lor LU c'.lm)) 0) with
      | false => rw [hb] at h; cases h
      | true =>
        rw [hb, cond_true] at h
        simp only [Option.some.injEq, Prod.mk.injEq] at h
        obtain ⟨rfl, rfl, rfl, rfl⟩ := h
        simp only [Bool.and_eq_true] at hb
        exact ⟨h1, hb.1, .inr (.inl ⟨rfl, h2, hb.2⟩)⟩
    · split at h
      · rename_i i' c' hf
        obtain ⟨h1, h2⟩ := firstIs_some hf
        cases hb : (pairOk c' LU DU && Nat.beq (Nat.land c'.dm (Nat.lor LU c'.lm)) 0) with
        | false => rw [hb] at h; cases h
        | true =>
          rw [hb, cond_true] at h
          simp only [Option.some.injEq, Prod.mk.injEq] at h
          obtain ⟨rfl, rfl, rfl, rfl⟩ := h
          simp only [Bool.and_eq_true] at hb
          exact ⟨h1, hb.1, .inr (.inr ⟨rfl, hb.2⟩)⟩
      · cases h
/-! ### ancestors -/
theorem ancE_bits {acc : List Nat} {Lt : Nat → Prop} : ∀ (l : List Edge) (s : Nat), (∀ j, s.testBit j = true → Lt j) → (∀ e ∈ l, Region.binds .any e = true → Lt e.on ∧ ∀ a, acc[e.on]? = some a → ∀ j, a.testBit j = true → Lt j) →
    ∀ j, (ancE acc l s).testBit j = true → Lt j := by
  intro l
  induction l with
  | nil => intro s hs _; exact hs
  | cons e l ih =>
    intro s hs hl
    have hc : ancE acc (e :: l) s = cond (Region.binds .any e) (ancE acc l (Nat.lor s (Nat.lor (Nat.shiftLeft 1 e.on) (match nth acc e.on with | some a => a | none => 0)))) (ancE acc l s) := rfl
    rw [hc]
    cases hb : Region.binds .any e with
    | false => exact ih s hs fun x hx => hl x (by simp [hx])
    | true =>
      obtain ⟨h1, h2⟩ := hl e (by simp) hb
      refine ih _ (fun j hj => ?_) fun x hx => hl x (by simp [hx])
      rw [tb_or, tb_or, tb_one, Bool.or_eq_true, Bool.or_eq_true, decide_eq_true_eq] at hj
      rcases hj with hj | hj | hj
      · exact hs j hj
      · subst hj; exact h1
      · rw [nth_eq] at hj
        cases ha : acc[e.on]? with
        | none => rw [ha] at hj; simp at hj
        | some a => rw [ha] at hj; exact h2 a ha j hj
theorem ancL_bits {Lt : Nat → Prop} (hcl : ∀ i o, Lt i → ops[i]? = some o → ∀ j, Waits o j → Lt j) : ∀ (l : List Oper) (acc : List Nat), (∀ j, l[j]? = ops[acc.length + j]?) →
    (∀ (i : Nat) a o, acc[i]? = some a → ops[i]? = some o → (∀ j, Waits o j → Lt j) → ∀ j, a.testBit j = true → Lt j) →
    ∀ (i : Nat) a o, (ancL l acc)[i]? = some a → ops[i]? = some o → (∀ j, Waits o j → Lt j) → ∀ j, a.testBit j = true → Lt j := by
  intro l
  induction l with
  | nil => intro acc _ h; exact h
  | cons o l ih =>
    intro acc hk h
    have hc : ancL (o :: l) acc = ancL l (app acc [ancE acc o.after.toList 0]) := rfl
    rw [hc, app_eq]
    refine ih _ (fun j => by have := hk (j + 1); rw [List.getElem?_cons_succ] at this; rw [this]; simp; congr 1; omega) fun i a o' ha ho hw => ?_
    by_cases hi : i < acc.length
    · rw [List.getElem?_append_left hi] at ha
      exact h i a o' ha ho hw
    · have hlen := (List.getElem?_eq_some_iff.1 ha).1
      simp only [List.length_append, List.length_cons, List.length_nil] at hlen
      obtain rfl : i = acc.length := by omega
      have h0 := hk 0
      simp only [List.getElem?_cons_zero, Nat.add_zero] at h0
      rw [← h0, Option.some.injEq] at ho
      subst ho
      rw [List.getElem?_append_right (Nat.le_refl _)] at ha
      simp only [Nat.sub_self, List.getElem?_cons_zero, Option.some.injEq] at ha
      subst ha
      refine ancE_bits _ _ (fun j hj => by simp at hj) fun e he hb => ?_
      have hon : Lt e.on := hw e.on ⟨e, he, hb, rfl⟩
      refine ⟨hon, fun a ha => ?_⟩
      cases hoo : ops[e.on]? with
      | none =>
        intro j hj
        have hlt := (List.getElem?_eq_some_iff.1 ha).1
        have h1 : ops.size ≤ e.on := by
          rcases Nat.lt_or_ge e.on ops.size with h | h
          · rw [Array.getElem?_eq_getElem h] at hoo; cases hoo
          · exact h
        have h2 : acc.length < ops.size := (Array.getElem?_eq_some_iff.1 h0.symm).1
        omega
      | some q => exact h e.on a q ha hoo (hcl e.on q hon hoo)
/-- what comes ahead of a ready operation has come -/
theorem anc_ok {Lt : Nat → Prop} (hcl : ∀ i o, Lt i → ops[i]? = some o → ∀ j, Waits o j → Lt j) {i : Nat} {o : Oper} (ho : ops[i]? = some o) (hw : ∀ j, Waits o j → Lt j) {j : Nat} (hj : (nthN (ancL ops.toList []) i).testBit j = true) : Lt j := by
  unfold nthN at hj
  rw [nth_eq] at hj
  cases ha : (ancL ops.toList [])[i]? with
  | none => rw [ha] at hj; simp at hj
  | some a =>
    rw [ha] at hj
    exact ancL_bits hcl ops.toList [] (fun j => by simp) (fun i a o h => by simp at h) i a o ha ho hw j hj
end
end Go.Proofs.YtgjabfpkbcdkcaaGreatDoor
