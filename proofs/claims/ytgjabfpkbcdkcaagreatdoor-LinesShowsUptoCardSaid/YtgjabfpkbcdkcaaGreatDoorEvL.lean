/- The evaluator's lists and trees are the usual ones. -/
import Derived.Test.YtgjabfpkbcdkcaaGreatDoorEv
namespace Go.Proofs.YtgjabfpkbcdkcaaGreatDoor
set_option linter.unusedSimpArgs false
set_option linter.unusedVariables false
section
variable {α β : Type}
theorem fN_eq {β : Type} (n : Nat) (k : Nat → β) : fN n k = k n := by cases n <;> rfl
theorem fL_eq {β : Type} (l : List α) (k : List α → β) : fL l k = k l := by cases l <;> rfl
theorem cons_eq (a : α) (l : List α) : cons a l = a :: l := by cases l <;> rfl
theorem fT_eq {β : Type} (t : Tr α) (k : Tr α → β) : fT' t k = k t := by cases t <;> rfl
theorem fI_eq {β : Type} (n : Int) (k : Int → β) : fI n k = k n := by cases n <;> simp only [fI, fN_eq]
theorem fA_eq {β : Type} (a : Option Addr) (k : Option Addr → β) : fA a k = k a := by
  rcases a with _ | ⟨b, o, _ | s⟩
  · rfl
  · show fN b (fun b => fN o fun o => k (some ⟨b, o, none⟩)) = _; rw [fN_eq, fN_eq]
  · rfl
theorem fO_eq {β : Type} (a : Option Nat) (k : Option Nat → β) : fO a k = k a := by cases a <;> simp only [fO, fN_eq]
theorem fH_eq {β : Type} (H : Hp) (k : Hp → β) : fH H k = k H := by obtain ⟨n, t⟩ := H; show fN n (fun n => fT' t fun t => k ⟨n, t⟩) = _; rw [fN_eq, fT_eq]
theorem sh_eq {β : Type} (v : Value) (k : Value → β) : sh v k = k v := by cases v <;> rfl
theorem nf_eq {β : Type} (v : Value) (k : Value → β) : nf v k = k v := by
  cases v with
  | bool b => cases b <;> rfl
  | string s => obtain ⟨⟨l⟩⟩ := s; simp only [nf, fL_eq]
  | func f a b => obtain ⟨a⟩ := a; obtain ⟨b⟩ := b; simp only [nf, fL_eq]
  | agg cs => obtain ⟨l⟩ := cs; simp only [nf, fL_eq]
  | tuple cs => obtain ⟨l⟩ := cs; simp only [nf, fL_eq]
  | _ => simp only [nf, fI_eq, fA_eq, fO_eq, fN_eq]
theorem cellsL_eq (v : Value) : cellsL v = v.cells.toList := by
  cases v with
  | agg cs => obtain ⟨l⟩ := cs; rfl
  | _ => rfl
theorem nth_nil (k : Nat) : nth ([] : List α) k = none := rfl
theorem nth_cons (a : α) (l : List α) (k : Nat) : nth (a :: l) k = cond (Nat.beq k 0) (some a) (nth l (Nat.sub k 1)) := rfl
theorem nth_eq : ∀ (l : List α) (k : Nat), nth l k = l[k]?
  | [], k => by simp [nth_nil]
  | a :: l, 0 => rfl
  | a :: l, k + 1 => by rw [nth_cons, show Nat.beq (k + 1) 0 = false from rfl, cond_false, show Nat.sub (k + 1) 1 = k from rfl, nth_eq l k]; simp
theorem ln_go (l : List α) : ∀ n : Nat, List.rec (motive := fun _ => Nat → Nat) (fun n => n) (fun _ _ ih n => ih (Nat.succ n)) l n = n + l.length := by
  induction l with
  | nil => intro n; rfl
  | cons a l ih => intro n; show List.rec (motive := fun _ => Nat → Nat) (fun n => n) (fun _ _ ih n => ih (Nat.succ n)) l (Nat.succ n) = _; rw [ih]; simp; omega
theorem ln_eq (l : List α) : ln l = l.length := by rw [ln, ln_go]; omega
theorem app_eq (l m : List α) : app l m = l ++ m := by
  induction l with
  | nil => rfl
  | cons a l ih => show cons a (app l m) = _; rw [ih, cons_eq]; rfl
theorem tk_eq : ∀ (l : List α) (n : Nat), tk n l = l.take n
  | [], n => by cases n <;> rfl
  | a :: l, 0 => rfl
  | a :: l, n + 1 => by show cons a (tk n l) = _; rw [tk_eq l n, cons_eq]; rfl
theorem dr_eq : ∀ (l : List α) (n : Nat), dr n l = l.drop n
  | [], n => by cases n <;> rfl
  | a :: l, 0 => rfl
  | a :: l, n + 1 => by show dr n l = _; rw [dr_eq l n]; rfl
theorem mp_eq (f : α → β) (l : List α) : mp f l = l.map f := by
  induction l with
  | nil => rfl
  | cons a l ih => show cons (f a) (mp f l) = _; rw [ih, cons_eq]; rfl
theorem mpV_eq (f : α → Value) (l : List α) : mpV f l = l.map f := by
  induction l with
  | nil => rfl
  | cons a l ih => show sh (f a) (fun v => cons v (mpV f l)) = _; rw [sh_eq, ih, cons_eq]; rfl
theorem allB_eq (f : α → Bool) (l : List α) : allB f l = l.all f := by
  induction l with
  | nil => rfl
  | cons a l ih => show cond (f a) (allB f l) false = _; rw [ih]; cases h : f a <;> simp [h]
theorem allB_iff {f : α → Bool} {l : List α} : allB f l = true ↔ ∀ x ∈ l, f x = true := by rw [allB_eq]; simp
theorem reps_go (l : List α) (n : Nat) : ∀ z : List α, Nat.rec (motive := fun _ => List α → List α) (fun z => z) (fun _ ih z => app l (ih z)) n z = (List.replicate n l).flatten ++ z := by
  induction n with
  | zero => intro z; rfl
  | succ n ih => intro z; show app l (Nat.rec (motive := fun _ => List α → List α) (fun z => z) (fun _ ih z => app l (ih z)) n z) = _; rw [ih, app_eq, List.replicate_succ]; simp
theorem reps_eq (n : Nat) (l : List α) : reps n l = (List.replicate n l).flatten := by rw [reps, reps_go]; simp
theorem part?_some {l r : List α} {off n : Nat} (h : part? l off n = some r) : r = (l.drop off).take n ∧ r.length = n ∧ (n = 0 ∨ off + n ≤ l.length) := by
  unfold part? at h
  rw [fL_eq, tk_eq, dr_eq, ln_eq] at h
  cases hb : Nat.beq ((l.drop off).take n).length n with
  | false => rw [hb] at h; cases h
  | true =>
    rw [hb] at h
    have hn := Nat.eq_of_beq_eq_true hb
    simp only [cond_true, Option.some.injEq] at h
    subst h
    refine ⟨rfl, hn, ?_⟩
    simp at hn
    omega
theorem inRange_iff {l : List α} {k : Nat} : inRange l k = true ↔ k ≤ l.length := by
  unfold inRange
  cases k with
  | zero => simp [show Nat.beq 0 0 = true from rfl]
  | succ k =>
    rw [show Nat.beq (k + 1) 0 = false from rfl, cond_false, nth_eq, show Nat.sub (k + 1) 1 = k from rfl]
    cases h : l[k]? with
    | none => rw [List.getElem?_eq_none_iff] at h; simp; omega
    | some a => obtain ⟨hk, _⟩ := List.getElem?_eq_some_iff.1 h; simp; omega
theorem put?_some {l vs r : List α} {off : Nat} (h : put? l off vs = some r) : off + vs.length ≤ l.length ∧ r = l.take off ++ (vs ++ l.drop (off + vs.length)) := by
  unfold put? at h
  rw [fL_eq, app_eq, app_eq, tk_eq, dr_eq, ln_eq] at h
  cases hb : inRange l (Nat.add off vs.length) with
  | false => rw [hb] at h; cases h
  | true =>
    rw [hb] at h
    have hn := inRange_iff.1 hb
    simp only [cond_true, Option.some.injEq] at h
    exact ⟨hn, h.symm⟩
/-! ### trees -/
theorem Tr.get_e (k : Nat) : (Tr.e : Tr α).get k = none := rfl
theorem Tr.get_n (v : Option α) (l r : Tr α) (k : Nat) : (Tr.n v l r).get k = cond (Nat.beq k 0) v (cond (Nat.beq (Nat.mod k 2) 1) (l.get (Nat.div (Nat.sub k 1) 2)) (r.get (Nat.div (Nat.sub k 1) 2))) := rfl
noncomputable def Tr.setF (v : Option α) (d : Nat) : Tr α → Nat → Tr α := Nat.rec (motive := fun _ => Tr α → Nat → Tr α) (fun t _ => t) (fun _ ih t k => Tr.set1 v ih t k) d
theorem Tr.set_eq (t : Tr α) (k : Nat) (v : Option α) : t.set k v = Tr.setF v (k + 1) t k := rfl
theorem Tr.setF_succ (v : Option α) (d : Nat) (t : Tr α) (k : Nat) : Tr.setF v (d + 1) t k = Tr.set1 v (Tr.setF v d) t k := rfl
theorem Tr.nl_eq (u : Option α) (l r : Tr α) : Tr.nl u l r = .n u l r := by cases l <;> rfl
theorem Tr.nr_eq (u : Option α) (l r : Tr α) : Tr.nr u l r = .n u l r := by cases r <;> rfl
theorem half_lt {k d : Nat} (h : k < d + 1) (hk : k ≠ 0) : (k - 1) / 2 < d := by omega
theorem Tr.get_setF (v : Option α) : ∀ (d k j : Nat) (t : Tr α), k < d → (Tr.setF v d t k).get j = if j = k then v else t.get j := by
  intro d
  induction d with
  | zero => intro k j t h; omega
  | succ d ih =>
    intro k j t h
    rw [Tr.setF_succ]
    have e0 : ∀ n : Nat, Nat.beq n 0 = decide (n = 0) := fun n => by cases n <;> simp [Nat.beq]
    have e1 : ∀ n : Nat, Nat.beq (Nat.mod n 2) 1 = decide (n % 2 = 1) := fun n => by
      have : Nat.mod n 2 = n % 2 := rfl
      rw [this]
      rcases Nat.mod_two_eq_zero_or_one n with h | h <;> rw [h] <;> rfl
    have es : ∀ n : Nat, Nat.div (Nat.sub n 1) 2 = (n - 1) / 2 := fun n => rfl
    by_cases hk : k = 0
    · subst hk
      cases t with
      | e =>
        simp only [Tr.set1, Tr.nl_eq, Tr.nr_eq, show Nat.beq 0 0 = true from rfl, cond_true, Tr.get_n, Tr.get_e, e0]
        by_cases hj : j = 0 <;> simp [hj]
      | n u l r =>
        simp only [Tr.set1, Tr.nl_eq, Tr.nr_eq, show Nat.beq 0 0 = true from rfl, cond_true, Tr.get_n, e0]
        by_cases hj : j = 0 <;> simp [hj]
    · have hlt := half_lt h hk
      have hb : Nat.beq k 0 = false := by rw [e0]; simpa using hk
      cases t with
      | e =>
        simp only [Tr.set1, Tr.nl_eq, Tr.nr_eq, hb, cond_false, e1, es]
        by_cases hp : k % 2 = 1
        · simp only [hp, decide_true, cond_true, Tr.get_n, Tr.get_e, e0, e1, es]
          by_cases hj : j = 0
          · subst hj; simp [Ne.symm hk]
          · simp only [hj, decide_false, cond_false]
            by_cases hq : j % 2 = 1
            · simp only [hq, decide_true, cond_true, ih _ _ _ hlt, Tr.get_e]
              by_cases hjk : j = k
              · subst hjk; simp
              · rw [if_neg hjk, if_neg (by omega)]
            · simp only [hq, decide_false, cond_false]
              rw [if_neg (by rintro rfl; exact hq hp)]
        · simp only [hp, decide_false, cond_false, Tr.get_n, Tr.get_e, e0, e1, es]
          by_cases hj : j = 0
          · subst hj; simp [Ne.symm hk]
          · simp only [hj, decide_false, cond_false]
            by_cases hq : j % 2 = 1
            · simp only [hq, decide_true, cond_true]
              rw [if_neg (by rintro rfl; exact hp hq)]
            · simp only [hq, decide_false, cond_false, ih _ _ _ hlt, Tr.get_e]
              by_cases hjk : j = k
              · subst hjk; simp
              · rw [if_neg hjk, if_neg (by omega)]
      | n u l r =>
        simp only [Tr.set1, Tr.nl_eq, Tr.nr_eq, hb, cond_false, e1, es]
        by_cases hp : k % 2 = 1
        · simp only [hp, decide_true, cond_true, Tr.get_n, e0, e1, es]
          by_cases hj : j = 0
          · subst hj; simp [Ne.symm hk]
          · simp only [hj, decide_false, cond_false]
            by_cases hq : j % 2 = 1
            · simp only [hq, decide_true, cond_true, ih _ _ _ hlt]
              by_cases hjk : j = k
              · subst hjk; simp
              · rw [if_neg hjk, if_neg (by omega)]
            · simp only [hq, decide_false, cond_false]
              rw [if_neg (by rintro rfl; exact hq hp)]
        · simp only [hp, decide_false, cond_false, Tr.get_n, e0, e1, es]
          by_cases hj : j = 0
          · subst hj; simp [Ne.symm hk]
          · simp only [hj, decide_false, cond_false]
            by_cases hq : j % 2 = 1
            · simp only [hq, decide_true, cond_true]
              rw [if_neg (by rintro rfl; exact hp hq)]
            · simp only [hq, decide_false, cond_false, ih _ _ _ hlt]
              by_cases hjk : j = k
              · subst hjk; simp
              · rw [if_neg hjk, if_neg (by omega)]
theorem Tr.get_set (t : Tr α) (k j : Nat) (v : Option α) : (t.set k v).get j = if j = k then v else t.get j := by
  rw [Tr.set_eq, Tr.get_setF v (k + 1) k j t (by omega)]
theorem Tr.get_same (t : Tr α) (k : Nat) (v : Option α) : (t.set k v).get k = v := by rw [Tr.get_set, if_pos rfl]
theorem Tr.get_other (t : Tr α) {k j : Nat} (h : j ≠ k) (v : Option α) : (t.set k v).get j = t.get j := by rw [Tr.get_set, if_neg h]
/-- what a function's tree holds is the function's -/
theorem mkT_get (f : Nat → Option α) : ∀ (d a b k : Nat) (x : α), (mkT f d a b).get k = some x → f (a * k + b) = some x := by
  intro d
  induction d with
  | zero => intro a b k x h; cases h
  | succ d ih =>
    intro a b k x h
    have hm : mkT f (d + 1) a b = .n (f b) (mkT f d (Nat.mul 2 a) (Nat.add a b)) (mkT f d (Nat.mul 2 a) (Nat.add (Nat.mul 2 a) b)) := rfl
    rw [hm, Tr.get_n] at h
    by_cases hk : k = 0
    · subst hk
      rw [show Nat.beq 0 0 = true from rfl, cond_true] at h
      simpa using h
    · have hb : Nat.beq k 0 = false := by cases k with | zero => exact absurd rfl hk | succ k => rfl
      rw [hb, cond_false] at h
      have hd : Nat.div (Nat.sub k 1) 2 = (k - 1) / 2 := rfl
      rw [hd] at h
      rcases Nat.mod_two_eq_zero_or_one k with hp | hp
      · rw [show Nat.mod k 2 = 0 from hp, show Nat.beq 0 1 = false from rfl, cond_false] at h
        have h2 := ih _ _ _ _ h
        have e : Nat.mul 2 a * ((k - 1) / 2) + Nat.add (Nat.mul 2 a) b = a * k + b := by
          obtain ⟨q, rfl⟩ : ∃ q, k = 2 * q + 2 := ⟨(k - 2) / 2, by omega⟩
          have : (2 * q + 2 - 1) / 2 = q := by omega
          rw [this]
          show 2 * a * q + (2 * a + b) = a * (2 * q + 2) + b
          rw [Nat.mul_add, Nat.mul_comm 2 a, Nat.mul_assoc]; omega
        rwa [e] at h2
      · rw [show Nat.mod k 2 = 1 from hp, show Nat.beq 1 1 = true from rfl, cond_true] at h
        have h2 := ih _ _ _ _ h
        have e : Nat.mul 2 a * ((k - 1) / 2) + Nat.add a b = a * k + b := by
          obtain ⟨q, rfl⟩ : ∃ q, k = 2 * q + 1 := ⟨(k - 1) / 2, by omega⟩
          have : (2 * q + 1 - 1) / 2 = q := by omega
          rw [this]
          show 2 * a * q + (a + b) = a * (2 * q + 1) + b
          rw [Nat.mul_add, Nat.mul_comm 2 a, Nat.mul_assoc]; omega
        rwa [e] at h2
end
end Go.Proofs.YtgjabfpkbcdkcaaGreatDoor
