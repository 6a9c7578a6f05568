/- The evaluator's append and copy are the model's, whatever capacity is drawn. -/
import Derived.Test.YtgjabfpkbcdkcaaGreatDoorEvN
namespace Go.Proofs.YtgjabfpkbcdkcaaGreatDoor
set_option linter.unusedVariables false
set_option linter.unusedSimpArgs false
section
variable {w0 : Base} {w w' : World} {E E' : En} {H H' : Hp} {t e : TypeId} {d : TypeDesc} {i : TypeInfo}
/-- a row that was appended to in place: the evaluator's block has a new name -/
theorem Sim.move (S : Sim PP w0 E H w) {id b c : Nat} {o o' : AO} (hg : H.t.get id = some o) (hid : E id = some (b, c)) (hb : ¬ w0.K b) (hs : w'.heap.size = w.heap.size)
    (ho : ∀ k, k ≠ b → w'.heap[k]? = w.heap[k]?) (h2 : w'.os = w.os) (h3 : w'.tape = w.tape) (h4 : w'.output = w.output) (hv : ∀ q, o' ≠ .virt q) (hr : CRel PP (E.add H.nx (b, c)) w' b c o') :
    Sim PP w0 (E.add H.nx (b, c)) ((H.del id).new o') w' ∧ E.le (E.add H.nx (b, c)) := by
  have hle := En.add_le (x := (b, c)) S.nx_none
  have hget : ∀ j, ((H.del id).new o').t.get j = if j = H.nx then some o' else (if j = id then none else H.t.get j) := fun j => by rw [Hp.new_get, Hp.del_nx, Hp.del_get]
  have hne : id ≠ H.nx := fun e => by have := S.tl _ _ hg; omega
  have hEid : ∀ j, j ≠ H.nx → E.add H.nx (b, c) j = E j := fun j h => if_neg h
  have hself : E.add H.nx (b, c) H.nx = some (b, c) := if_pos rfl
  have hold : ∀ j q, j ≠ H.nx → ((H.del id).new o').t.get j = some q → j ≠ id ∧ H.t.get j = some q := fun j q hj hq => by
    rw [hget, if_neg hj] at hq
    by_cases e : j = id
    · rw [if_pos e] at hq; cases hq
    · rw [if_neg e] at hq; exact ⟨e, hq⟩
  refine ⟨⟨h2.trans S.os, h3.trans S.tape, h4.trans S.out, by rw [hs]; exact S.size, fun k hk => by rw [ho k (fun e => hb (e ▸ hk))]; exact S.old k hk, fun g hg => hle _ _ (S.glob g hg), ?_, ?_, ?_, ?_, ?_⟩, hle⟩
  · intro j x hx
    rw [Hp.new_nx, Hp.del_nx]
    by_cases e : j = H.nx
    · omega
    · rw [hEid j e] at hx
      have := S.lt _ _ hx
      omega
  · intro j q hq
    rw [Hp.new_nx, Hp.del_nx]
    by_cases e : j = H.nx
    · omega
    · have := S.tl _ _ (hold j q e hq).2
      omega
  · intro j q hq
    by_cases e : j = H.nx
    · subst e
      rw [hget, if_pos rfl, Option.some.injEq] at hq
      subst hq
      rw [hself]
      have hbr : BRel PP w0.K (E.add H.nx (b, c)) w' (some (b, c)) o' := ⟨b, c, rfl, hb, hr⟩
      cases o' with
      | virt q => exact absurd rfl (hv q)
      | _ => exact hbr
    · obtain ⟨hj, hq⟩ := hold j q e hq
      rw [hEid j e]
      refine ((S.obj j q hq).le hle).keep fun k c' hk => ho k fun hkb => ?_
      subst hkb
      exact hj (S.inj j id q o k c' c hq hg hk hid)
  · intro j j' q q' b1 c1 c2 h1 h2 h3 h4
    by_cases e1 : j = H.nx
    · by_cases e2 : j' = H.nx
      · rw [e1, e2]
      · obtain ⟨hj, hq⟩ := hold j' q' e2 h2
        rw [hEid j' e2] at h4
        subst e1
        rw [hself] at h3
        obtain ⟨rfl, rfl⟩ : b = b1 ∧ c = c1 := by simpa using h3
        exact absurd (S.inj j' id q' o b c2 c hq hg h4 hid) hj
    · obtain ⟨hj, hq⟩ := hold j q e1 h1
      rw [hEid j e1] at h3
      by_cases e2 : j' = H.nx
      · subst e2
        rw [hself] at h4
        obtain ⟨rfl, rfl⟩ : b = b1 ∧ c = c2 := by simpa using h4
        exact absurd (S.inj j id q o b c1 c hq hg h3 hid) hj
      · obtain ⟨hj', hq'⟩ := hold j' q' e2 h2
        rw [hEid j' e2] at h4
        exact S.inj j j' q q' b1 c1 c2 hq hq' h3 h4
  · intro j ob hv
    obtain ⟨p1, p2⟩ := S.pend j ob hv
    have h1 : j ≠ H.nx := fun e => by have := S.tl _ _ p2; omega
    have h2 : j ≠ id := by rintro rfl; rw [hid] at p1; cases p1
    rw [hEid j h1, hget, if_neg h1, if_neg h2]
    exact ⟨p1, p2⟩
/-- what is appended, for the model: zs: so many zeros -/
def News (P : Program) (zs : Bool) (i : TypeInfo) (x : Value) (n : Nat) (new : List Value) (w : World) : Prop :=
  match zs with
  | true => (∃ k, x = .int k (n : Int)) ∧ n ≤ 1048576 ∧ ∃ z, i.zero = some z ∧ z.cells.size = i.size ∧ new = (List.replicate n z.cells.toList).flatten
  | false => (∀ w1 : World, (Builtin.lenOf x).run P w1 = .ok n w1) ∧ ∀ w1 : World, w1.heap = w.heap → (Builtin.firstCells i.size n x).run P w1 = .ok ⟨new⟩ w1
theorem news_ok (S : Sim PP w0 E H w) {zs : Bool} {x : Value} {n : Nat} {new : List Value} (h : newsOf zs i x H = some (n, new)) (hg : good E x) :
    News PP zs i (conc E x) n (new.map (conc E)) w ∧ (∀ v ∈ new, good E v) ∧ new.length = n * i.size := by
  unfold newsOf at h
  cases zs with
  | true =>
    simp only at h
    unfold natOf at h
    split at h
    · rename_i m hm
      split at hm
      · rename_i k q
        simp only [Option.some.injEq] at hm
        subst hm
        cases hz : zerosE i q with
        | none => rw [hz] at h; cases h
        | some l =>
          simp only [hz, Option.some.injEq, Prod.mk.injEq] at h
          obtain ⟨rfl, rfl⟩ := h
          obtain ⟨z, h1, h2, h3, h4, h5⟩ := zerosE_ok hz
          obtain ⟨c1, c2⟩ := zeros_conc (E := E) h2 q
          subst h4
          rw [c1]
          simp at h3
          exact ⟨⟨⟨k, rfl⟩, h5, z, h1, h3, rfl⟩, c2, by simp [h3]⟩
      · cases hm
    · cases h
  | false =>
    simp only at h
    cases hl : lenOf' x with
    | none => rw [hl] at h; cases h
    | some m =>
      simp only [hl] at h
      cases hf : firstOf H i.size m x with
      | none => rw [hf] at h; cases h
      | some l =>
        simp only [hf] at h
        cases hb : Nat.beq (ln l) (Nat.mul m i.size) with
        | false => rw [hb] at h; cases h
        | true =>
          rw [hb, cond_true, Option.some.injEq, Prod.mk.injEq] at h
          obtain ⟨rfl, rfl⟩ := h
          have hb := Nat.eq_of_beq_eq_true hb
          rw [ln_eq] at hb
          have hlen : ∀ w1 : World, (Builtin.lenOf (conc E x)).run PP w1 = .ok m w1 := fun w1 => by
            unfold lenOf' at hl
            split at hl
            · rename_i a n c
              simp only [Option.some.injEq] at hl
              subst hl
              cases a <;> simp [conc, Builtin.lenOf]
            · rename_i s
              simp only [Option.some.injEq, ln_eq] at hl
              subst hl
              simp [conc, Builtin.lenOf]
            · cases hl
          exact ⟨⟨hlen, fun w1 hw => (first_ok S hf hw).1⟩, (first_ok S hf rfl).2.1, hb⟩
end
section
variable {P : Program} {w w' : World} {e : TypeId} {d : TypeDesc} {i : TypeInfo}
theorem zsOf_true (h : zsOf d = some true) : ∃ k, d = .int k := by cases d <;> simp [zsOf] at h; exact ⟨_, rfl⟩
theorem zsOf_false (h : zsOf d = some false) : (∃ e, d = .slice e) ∨ d = .string := by cases d <;> simp [zsOf] at h; all_goals simp
theorem wrap_small (n : Nat) (h : n ≤ 1048576) : IntKind.i64.wrap (n : Int) = n := by rw [IntKind.wrap_i64]; omega
set_option maxHeartbeats 4000000 in
/-- append, when what is appended is known -/
theorem run_app {zs : Bool} {ts : Array TypeId} {st xt ty : TypeId} {dx : TypeDesc} (h0 : ts[0]? = some st) (h1 : ts[1]? = some xt) (hu : P.underlying st = some (.slice e)) (hi : P.info? e = some i) (hx : P.underlying xt = some dx) (hz : zsOf dx = some zs)
    {x : Value} {n : Nat} {new : List Value} (hn : News P zs i x n new w) (hb : i.bytes ≤ 65536) (a : Option Addr) (len cap : Nat) {R : Result Value}
    (hroom : len + n ≤ cap → (match a with | some a => (storeCells (a.add (len * i.size)) new).run P w | none => .ok () w).andThen (fun _ w => .ok (.slice a (len + n) cap) w) = R)
    (hgrow : cap < len + n → len + n ≤ 1048576 ∧ ∃ z old, i.zero = some z ∧ (∀ w1 : World, w1.heap = w.heap → (Builtin.firstCells i.size len (.slice a len cap)).run P w1 = .ok ⟨old⟩ w1) ∧
      Result.ok (.slice (some ⟨w.heap.size, 0, none⟩) (len + n) (grownCap w (len + n) cap e)) (w.drew.alloc (.cells ⟨old ++ new ++ (List.replicate (grownCap w (len + n) cap e - (len + n)) z.cells.toList).flatten⟩ e)) = R) :
    (Builtin.append_ ts ty #[.slice a len cap, x]).run P w = R := by
  cases zs with
  | true =>
    obtain ⟨k, rfl⟩ := zsOf_true hz
    obtain ⟨⟨q, rfl⟩, hnn, zv, hzv, hzs, hnew⟩ := hn
    have w0 := wrap_small n hnn
    have n1 : ¬ ((n : Int) < 0) := by omega
    have hmul : n * i.bytes ≤ 1048576 * 65536 := Nat.mul_le_mul hnn hb
    have n2 : ¬ (281474976710656 < (n : Int) * (i.bytes : Int)) := by rw [← Int.natCast_mul]; omega
    have n3 : ¬ (9223372036854775807 < ((len : Int) + (n : Int))) ∨ ¬ (len + n ≤ 1048576) := by omega
    by_cases hc : len + n ≤ cap
    · have hr := hroom hc
      rw [← hr]
      by_cases hnz : n * i.size = 0
      · have hne : new = [] := by
          rw [hnew]
          rcases Nat.mul_eq_zero.1 hnz with h | h
          · simp [h]
          · have hnil : zv.cells.toList = [] := List.eq_nil_of_length_eq_zero (by simpa [h] using hzs)
            simp [hnil]
        cases a <;> simp [Builtin.append_, h0, h1, run_underlying hu, run_underlying hx, sizeOf, typeInfo, hi, asInt, asIntOf, w0, n1, n2, hc, hnz, hne, storeCells]
      · have hzc : Builtin.zeroCells zv.cells n = ⟨new⟩ := by apply Array.ext'; rw [zeroCells_eq, hnew]
        cases a <;> simp [Builtin.append_, h0, h1, run_underlying hu, run_underlying hx, sizeOf, typeInfo, zeroValue, hi, hzv, asInt, asIntOf, w0, n1, n2, hc, hnz, hzc, storeCells]
    · obtain ⟨hsm, z, old, hzv', hold, hr⟩ := hgrow (by omega)
      rw [← hr]
      have h63' : ¬ (9223372036854775807 < ((len : Int) + (n : Int))) := by omega
      have hfit := growslice_fits (need := len + n) (old := cap) (bytes := i.bytes) (by omega) (by have := Nat.mul_le_mul hsm hb; omega)
      have h48' : ¬ (281474976710656 < Builtin.nextslicecap (len + n) cap * i.bytes) := by omega
      have hfo := hold w.drew rfl
      have hzc := zeroCells_eq z.cells (grownCap w (len + n) cap e - (len + n))
      have hcell : (⟨old⟩ ++ ⟨new⟩ ++ Builtin.zeroCells z.cells (grownCap w (len + n) cap e - (len + n)) : Array Value) = ⟨old ++ new ++ (List.replicate (grownCap w (len + n) cap e - (len + n)) z.cells.toList).flatten⟩ := by
        apply Array.ext'
        rw [Array.toList_append, hzc]
        simp
      rw [← hcell]
      obtain rfl : zv = z := by rw [hzv] at hzv'; simpa using hzv'
      by_cases hnz : n * i.size = 0
      · have hne : new = [] := by
          rw [hnew]
          rcases Nat.mul_eq_zero.1 hnz with h | h
          · simp [h]
          · have hnil : zv.cells.toList = [] := List.eq_nil_of_length_eq_zero (by simpa [h] using hzs)
            simp [hnil]
        simp [Builtin.append_, h0, h1, run_underlying hu, run_underlying hx, sizeOf, typeInfo, zeroValue, hi, hzv, hc, h63', h48', Question.forced, hfo, newRow, grownCap, asInt, asIntOf, w0, n1, n2, hnz, hne]
      · have hzc' : Builtin.zeroCells zv.cells n = ⟨new⟩ := by apply Array.ext'; rw [zeroCells_eq, hnew]
        simp [Builtin.append_, h0, h1, run_underlying hu, run_underlying hx, sizeOf, typeInfo, zeroValue, hi, hzv, hc, h63', h48', Question.forced, hfo, newRow, grownCap, asInt, asIntOf, w0, n1, n2, hnz, hzc']
        congr 2
        apply Array.ext'
        simp [List.append_assoc]
  | false =>
    obtain ⟨hl, hf⟩ := hn
    by_cases hc : len + n ≤ cap
    · have hr := hroom hc
      rw [← hr]
      have hf := hf w rfl
      rcases zsOf_false hz with ⟨q, rfl⟩ | rfl
      · cases a <;> simp [Builtin.append_, h0, h1, run_underlying hu, run_underlying hx, sizeOf, typeInfo, hi, hl, hf, hc]
      · cases a <;> simp [Builtin.append_, h0, h1, run_underlying hu, run_underlying hx, sizeOf, typeInfo, hi, hl, hf, hc]
    · obtain ⟨hsm, z, old, hzv, hold, hr⟩ := hgrow (by omega)
      rw [← hr]
      have h63' : ¬ (9223372036854775807 < ((len : Int) + (n : Int))) := by omega
      have hfit := growslice_fits (need := len + n) (old := cap) (bytes := i.bytes) (by omega) (by have := Nat.mul_le_mul hsm hb; omega)
      have h48' : ¬ (281474976710656 < Builtin.nextslicecap (len + n) cap * i.bytes) := by omega
      have hf := hf w.drew rfl
      have hfo := hold w.drew rfl
      have hzc := zeroCells_eq z.cells (grownCap w (len + n) cap e - (len + n))
      have hcell : (⟨old⟩ ++ ⟨new⟩ ++ Builtin.zeroCells z.cells (grownCap w (len + n) cap e - (len + n)) : Array Value) = ⟨old ++ new ++ (List.replicate (grownCap w (len + n) cap e - (len + n)) z.cells.toList).flatten⟩ := by
        apply Array.ext'
        rw [Array.toList_append, hzc]
        simp
      rw [← hcell]
      rcases zsOf_false hz with ⟨q, rfl⟩ | rfl
      · simp [Builtin.append_, h0, h1, run_underlying hu, run_underlying hx, sizeOf, typeInfo, zeroValue, hi, hzv, hl, hc, h63', h48', Question.forced, hf, hfo, newRow, grownCap]
        congr 2
        apply Array.ext'
        simp [List.append_assoc]
      · simp [Builtin.append_, h0, h1, run_underlying hu, run_underlying hx, sizeOf, typeInfo, zeroValue, hi, hzv, hl, hc, h63', h48', Question.forced, hf, hfo, newRow, grownCap]
        congr 2
        apply Array.ext'
        simp [List.append_assoc]
end
/-- a function of the model's that yields a value, against the evaluator's answer -/
def VOk (w0 : Base) (E : En) (H : Hp) (w : World) (R : Result Value) (r : OR) : Prop :=
  match r with
  | .v x => R = .ok (conc E x) w ∧ good E x
  | .w x H' => ∃ E' w', R = .ok (conc E' x) w' ∧ E.le E' ∧ Sim PP w0 E' H' w' ∧ good E' x
  | .no => True
  | _ => False
section
variable {w0 : Base} {w w' : World} {E E' : En} {H H' : Hp} {t e : TypeId} {d : TypeDesc} {i : TypeInfo}
theorem slice_conc {base : Option Addr} {len cap : Nat} (h : good E (.slice base len cap)) :
    ∃ c', conc E (.slice base len cap) = .slice (base.map (cAddr E)) len c' ∧ len ≤ c' ∧ (cap < HALF → c' = cap) ∧ (HALF ≤ cap → ∃ a, base = some a ∧ c' = E.cap a.block - (OPEN - cap) ∧ (E a.block).isSome = true) := by
  cases base with
  | none =>
    simp only [good] at h
    exact ⟨cap, rfl, h.2, fun _ => rfl, fun hc => by omega⟩
  | some a =>
    simp only [good] at h
    obtain ⟨h1, h2, h3⟩ := h
    refine ⟨cCap E a cap, rfl, ?_, fun hc => ?_, fun hc => ⟨a, rfl, ?_, h1⟩⟩
    · unfold cCap
      split
      · rename_i hc
        have := (h2 hc).2
        omega
      · exact h3 (by omega)
    · unfold cCap; rw [if_neg (by omega)]
    · unfold cCap; rw [if_pos hc]
theorem grownCap_ge (w : World) (need cap : Nat) (e : TypeId) : need ≤ grownCap w need cap e := by
  unfold grownCap
  simp [Question.cut]
/-- a new row, as append makes it -/
theorem rowE_ok (S : Sim PP w0 E H w) {ty : TypeId} {cs : List Value} (hg : ∀ v ∈ cs, good E v) {z : List Value} {c k : Nat} {i : TypeInfo} (hi : PP.info? ty = some i) (hsz : cs.length + k * i.size = c * i.size) (hz : z.length = i.size) {len : Nat} (hlen : len ≤ c) :
    VOk w0 E H w (.ok (.slice (some ⟨w.heap.size, 0, none⟩) len c) (w.drew.alloc (.cells ⟨cs.map (conc E) ++ (List.replicate k z).flatten⟩ ty))) (rowE ty cs true len OPEN H) := by
  unfold rowE
  rw [fL_eq]
  have hself : (E.add H.nx (w.heap.size, c)) H.nx = some (w.heap.size, c) := if_pos rfl
  have hle : E.le (E.add H.nx (w.heap.size, c)) := En.add_le S.nx_none
  have hO : HALF ≤ OPEN := by decide
  have hnew := Sim.new (w' := w.drew.alloc (.cells ⟨cs.map (conc E) ++ (List.replicate k z).flatten⟩ ty)) (c := c) (o := .cells ty cs true false) S (.cells ⟨cs.map (conc E) ++ (List.replicate k z).flatten⟩ ty) rfl rfl rfl rfl rfl (by intro q; simp)
    ⟨_, (0, 0), heap_alloc_new w.drew _, fun v hv => (conc_le hle v (hg v hv)).2, ⟨_, by rw [map_conc_le hle hg], (fun h => by cases h)⟩, fun _ => ⟨i, hi, by simp [hz]; exact hsz⟩, fun _ j hj => by
      have h := heap_alloc_new w.drew (.cells ⟨cs.map (conc E) ++ (List.replicate k z).flatten⟩ ty)
      unfold World.frozen?
      have e : w.drew.heap.size = w.heap.size := rfl
      rw [e] at h
      simp only [h]
      simp⟩
  refine ⟨_, _, ?_, hnew.2, hnew.1, ?_⟩
  · simp [conc, cAddr, cCap, En.blk, En.cap, hself, hO]
  · simp only [good, hself]
    exact ⟨rfl, fun _ => ⟨Nat.le_refl _, by simp [En.cap, hself]; exact hlen⟩, fun h => by omega⟩
end
end Go.Proofs.YtgjabfpkbcdkcaaGreatDoor
