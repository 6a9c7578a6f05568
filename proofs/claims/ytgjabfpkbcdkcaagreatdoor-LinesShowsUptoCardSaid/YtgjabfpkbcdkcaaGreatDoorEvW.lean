/- The evaluator's operators on integers and strings. -/
import Derived.Test.YtgjabfpkbcdkcaaGreatDoorEvV
namespace Go.Proofs.YtgjabfpkbcdkcaaGreatDoor
set_option linter.unusedVariables false
set_option linter.unusedSimpArgs false
section
variable {P : Program} {w : World} {t : TypeId}
theorem kid_inj {k j : IntKind} (h : kid k = kid j) : k = j := by cases k <;> cases j <;> first | rfl | (simp [kid] at h)
def limB (k : IntKind) : Nat := match k with | .i8 => 7 | .i16 => 15 | .i32 => 31 | .i64 => 63 | .u8 => 8 | .u16 => 16 | .u32 => 32 | .u64 => 64
theorem lim_eq (k : IntKind) : lim k = 2 ^ limB k := by cases k <;> rfl
theorem limB_le (k : IntKind) : limB k ≤ k.bits := by cases k <;> simp [limB, IntKind.bits]
theorem lim_le (k : IntKind) : lim k ≤ 2 ^ k.bits := by rw [lim_eq]; exact Nat.pow_le_pow_right (by omega) (limB_le k)
theorem ofInt_nat {n a : Nat} (h : a < 2 ^ n) : (BitVec.ofInt n (a : Int)).toNat = a := by
  rw [BitVec.ofInt_natCast, BitVec.toNat_ofNat, Nat.mod_eq_of_lt h]
theorem blt_of {a b : Nat} (h : Nat.blt a b = true) : a < b := by rwa [Nat.blt_eq] at h
theorem bleN (a b : Nat) : Nat.ble a b = decide (a ≤ b) := by
  cases h : Nat.ble a b with
  | true => simp [Nat.le_of_ble_eq_true h]
  | false =>
    have : ¬ a ≤ b := fun e => by rw [Nat.ble_eq_true_of_le e] at h; cases h
    simp [this]
theorem bltN (a b : Nat) : Nat.blt a b = decide (a < b) := bleN (a + 1) b
theorem beqN (a b : Nat) : Nat.beq a b = decide (a = b) := by
  cases h : Nat.beq a b with
  | true => simp [Nat.eq_of_beq_eq_true h]
  | false =>
    have : ¬ a = b := fun e => by subst e; rw [Nat.beq_refl] at h; cases h
    simp [this]
theorem natE_ok {op : BinOp} {k : IntKind} {a b : Nat} {v : Value} (h : natE op k a b = some v) : (binOp op t (.int k (a : Int)) (.int k (b : Int))).run P w = .ok v w ∧ afree v = true := by
  have hfin : ∀ n : Nat, natV k n = some v → v = .int k (n : Int) ∧ n < lim k := fun n hn => natV_ok hn
  cases op <;> simp only [natE] at h <;> try (cases h; done)
  case add =>
    obtain ⟨rfl, hl⟩ := hfin _ h
    have e : Nat.add a b = a + b := rfl
    rw [e] at hl ⊢
    have := wrap_lim hl
    refine ⟨?_, rfl⟩
    rw [Int.natCast_add] at this ⊢
    simp [binOp, Op.intArith, this]
  case sub =>
    cases hb : Nat.ble b a with
    | false => rw [hb] at h; cases h
    | true =>
      rw [hb, cond_true] at h
      have hb := Nat.le_of_ble_eq_true hb
      obtain ⟨rfl, hl⟩ := hfin _ h
      have e : Nat.sub a b = a - b := rfl
      rw [e] at hl ⊢
      have := wrap_lim hl
      refine ⟨?_, rfl⟩
      rw [Int.natCast_sub hb] at this ⊢
      simp [binOp, Op.intArith, this]
  case mul =>
    obtain ⟨rfl, hl⟩ := hfin _ h
    have e : Nat.mul a b = a * b := rfl
    rw [e] at hl ⊢
    have := wrap_lim hl
    refine ⟨?_, rfl⟩
    rw [Int.natCast_mul] at this ⊢
    simp [binOp, Op.intArith, this]
  case quo =>
    cases hb : Nat.beq b 0 with
    | true => rw [hb] at h; cases h
    | false =>
      rw [hb, cond_false] at h
      have hb : b ≠ 0 := fun e => by rw [e] at hb; cases hb
      obtain ⟨rfl, hl⟩ := hfin _ h
      have e : Nat.div a b = a / b := rfl
      rw [e] at hl ⊢
      have := wrap_lim hl
      refine ⟨?_, rfl⟩
      have hb' : ¬ ((b : Int) = 0) := by omega
      simp only [binOp, Op.intDiv, hb']
      simp [Int.ofNat_tdiv]
      rw [← Int.natCast_ediv, this]
  case rem =>
    cases hb : Nat.beq b 0 with
    | true => rw [hb] at h; cases h
    | false =>
      rw [hb, cond_false] at h
      have hb : b ≠ 0 := fun e => by rw [e] at hb; cases hb
      obtain ⟨rfl, hl⟩ := hfin _ h
      have e : Nat.mod a b = a % b := rfl
      rw [e] at hl ⊢
      refine ⟨?_, rfl⟩
      have hb' : ¬ ((b : Int) = 0) := by omega
      simp only [binOp, Op.intDiv, hb']
      simp [Int.ofNat_tmod]
      exact Int.tmod_eq_emod_of_nonneg (by omega)
  case and =>
    cases hb : (Nat.blt a (lim k) && Nat.blt b (lim k)) with
    | false => rw [hb] at h; cases h
    | true =>
      rw [hb, cond_true, Option.some.injEq] at h
      subst h
      simp only [Bool.and_eq_true] at hb
      have h1 := blt_of hb.1
      have h2 := blt_of hb.2
      have e : Nat.land a b = a &&& b := rfl
      have hl : a &&& b < lim k := Nat.lt_of_le_of_lt Nat.and_le_left h1
      have := wrap_lim hl
      refine ⟨?_, rfl⟩
      simp [binOp, Op.intBits, BitVec.toNat_and, e]
      rw [Nat.mod_eq_of_lt (Nat.lt_of_lt_of_le h1 (lim_le k)), Nat.mod_eq_of_lt (Nat.lt_of_lt_of_le h2 (lim_le k)), this]
  case or =>
    cases hb : (Nat.blt a (lim k) && Nat.blt b (lim k)) with
    | false => rw [hb] at h; cases h
    | true =>
      rw [hb, cond_true, Option.some.injEq] at h
      subst h
      simp only [Bool.and_eq_true] at hb
      have h1 := blt_of hb.1
      have h2 := blt_of hb.2
      have e : Nat.lor a b = a ||| b := rfl
      have hl : a ||| b < lim k := by rw [lim_eq] at h1 h2 ⊢; exact Nat.or_lt_two_pow h1 h2
      have := wrap_lim hl
      refine ⟨?_, rfl⟩
      simp [binOp, Op.intBits, BitVec.toNat_or, e]
      rw [Nat.mod_eq_of_lt (Nat.lt_of_lt_of_le h1 (lim_le k)), Nat.mod_eq_of_lt (Nat.lt_of_lt_of_le h2 (lim_le k)), this]
  case xor =>
    cases hb : (Nat.blt a (lim k) && Nat.blt b (lim k)) with
    | false => rw [hb] at h; cases h
    | true =>
      rw [hb, cond_true, Option.some.injEq] at h
      subst h
      simp only [Bool.and_eq_true] at hb
      have h1 := blt_of hb.1
      have h2 := blt_of hb.2
      have e : Nat.xor a b = a ^^^ b := rfl
      have hl : a ^^^ b < lim k := by rw [lim_eq] at h1 h2 ⊢; exact Nat.xor_lt_two_pow h1 h2
      have := wrap_lim hl
      refine ⟨?_, rfl⟩
      simp [binOp, Op.intBits, BitVec.toNat_xor, e]
      rw [Nat.mod_eq_of_lt (Nat.lt_of_lt_of_le h1 (lim_le k)), Nat.mod_eq_of_lt (Nat.lt_of_lt_of_le h2 (lim_le k)), this]
  all_goals
    simp only [Option.some.injEq] at h
    subst h
    refine ⟨?_, rfl⟩
    simp [binOp, Op.intCmp]
    first
      | (rw [beqN, Bool.eq_iff_iff]; simp; done)
      | (rw [beqN, Bool.eq_iff_iff]; simp; omega)
      | (rw [bltN]; done)
      | (rw [bleN]; done)
theorem fastE_ok {op : BinOp} {k j : IntKind} {a b : Int} {v : Value} (h : fastE op k j a b = some v) : (binOp op t (.int k a) (.int j b)).run P w = .ok v w ∧ afree v = true := by
  unfold fastE at h
  split at h
  · rename_i m n
    split at h
    · cases hb : Nat.blt m (lim k) with
      | false => rw [hb] at h; cases h
      | true =>
        rw [hb, cond_true, Option.some.injEq] at h
        subst h
        have h1 := blt_of hb
        refine ⟨?_, rfl⟩
        have hn : ¬ ((Int.ofNat n) < 0) := by simp
        have hq : (m : Int).fdiv (2 ^ (min n k.bits)) = (Nat.shiftRight m n : Nat) := by
          have e : Nat.shiftRight m n = m / 2 ^ n := Nat.shiftRight_eq_div_pow m n
          rw [e, Int.fdiv_eq_ediv_of_nonneg _ (by exact Int.le_of_lt (Int.pow_pos (by omega)))]
          have hp : ((2 : Int) ^ (min n k.bits)) = ((2 ^ (min n k.bits) : Nat) : Int) := by simp
          rw [hp, ← Int.natCast_ediv]
          congr 1
          rcases Nat.le_total n k.bits with hle | hle
          · rw [Nat.min_eq_left hle]
          · rw [Nat.min_eq_right hle, Nat.div_eq_of_lt (Nat.lt_of_lt_of_le h1 (lim_le k)), Nat.div_eq_of_lt (Nat.lt_of_lt_of_le (Nat.lt_of_lt_of_le h1 (lim_le k)) (Nat.pow_le_pow_right (by omega) hle))]
        have hc : Int.ofNat m = (m : Int) := rfl
        rw [← hc] at hq
        simp only [binOp, Op.shift, hn, if_false]
        show Sem.run P (pure (Value.int k ((Int.ofNat m).fdiv (2 ^ (min n k.bits))))) w = _
        rw [hq]
        rfl
    · cases hb : Nat.ble n 64 with
      | false => rw [hb] at h; cases h
      | true =>
        rw [hb, cond_true] at h
        obtain ⟨rfl, hl⟩ := natV_ok h
        refine ⟨?_, rfl⟩
        have hn : ¬ ((Int.ofNat n) < 0) := by simp
        have e : Nat.shiftLeft m n = m * 2 ^ n := Nat.shiftLeft_eq m n
        have hq : k.wrap ((Int.ofNat m) * 2 ^ (min n k.bits)) = (Nat.shiftLeft m n : Nat) := by
          have hp : ((2 : Int) ^ (min n k.bits)) = ((2 ^ (min n k.bits) : Nat) : Int) := by simp
          have hc : Int.ofNat m = (m : Int) := rfl
          rw [hp, hc, ← Int.natCast_mul]
          rcases Nat.le_total n k.bits with hle | hle
          · rw [Nat.min_eq_left hle, ← e, wrap_lim hl]
          · have hm : m = 0 := by
              rcases Nat.eq_zero_or_pos m with h | h
              · exact h
              · exfalso
                rw [e] at hl
                have h2 : 2 ^ k.bits ≤ 2 ^ n := Nat.pow_le_pow_right (by omega) hle
                have h3 := lim_le k
                have h4 : 1 * 2 ^ n ≤ m * 2 ^ n := Nat.mul_le_mul_right _ h
                omega
            subst hm
            rw [e]
            simp
            exact wrap_lim (k := k) (n := 0) (by cases k <;> simp [lim])
        simp only [binOp, Op.shift, hn, if_false]
        show Sem.run P (pure (Value.int k (k.wrap ((Int.ofNat m) * 2 ^ (min n k.bits))))) w = _
        rw [hq]
        rfl
    · cases hb : Nat.beq (kid k) (kid j) with
      | false => rw [hb] at h; cases h
      | true =>
        rw [hb, cond_true] at h
        obtain rfl := kid_inj (Nat.eq_of_beq_eq_true hb)
        exact natE_ok h
  · cases h
theorem eqB_nil (m : List UInt8) : eqB [] m = (match m with | [] => true | _ => false) := rfl
theorem eqB_cons (a : UInt8) (l m : List UInt8) : eqB (a :: l) m = (match m with | b :: m => cond (Nat.beq a.toNat b.toNat) (eqB l m) false | [] => false) := rfl
theorem eqB_iff : ∀ l m : List UInt8, eqB l m = true ↔ l = m
  | [], [] => by simp [eqB_nil]
  | [], b :: m => by simp [eqB_nil]
  | a :: l, [] => by simp [eqB_cons]
  | a :: l, b :: m => by
    rw [eqB_cons]
    simp only
    cases h : Nat.beq a.toNat b.toNat with
    | false =>
      have : a ≠ b := fun e => by subst e; rw [Nat.beq_refl] at h; cases h
      simp [this]
    | true =>
      have : a = b := UInt8.toNat_inj.1 (Nat.eq_of_beq_eq_true h)
      simp [this, eqB_iff l m]
theorem strE_ok {op : BinOp} {a b : List UInt8} {v : Value} (h : strE op a b = some v) : (binOp op t (.string ⟨⟨a⟩⟩) (.string ⟨⟨b⟩⟩)).run P w = .ok v w ∧ afree v = true := by
  have heq : (a == b) = eqB a b := by
    rw [Bool.eq_iff_iff, eqB_iff]
    simp
  unfold strE at h
  split at h
  · cases hb : Nat.ble (Nat.add (ln a) (ln b)) 1048576 with
    | false => rw [hb] at h; cases h
    | true =>
      rw [hb, cond_true, Option.some.injEq, app_eq] at h
      subst h
      have hb := Nat.le_of_ble_eq_true hb
      rw [ln_eq, ln_eq] at hb
      refine ⟨?_, rfl⟩
      have hs : (⟨⟨a⟩⟩ : ByteArray).size = a.length := rfl
      have hs' : (⟨⟨b⟩⟩ : ByteArray).size = b.length := rfl
      have hb : a.length + b.length ≤ 1048576 := hb
      have hr := run_string_add_sum (P := P) (w := w) ⟨⟨a⟩⟩ ⟨⟨b⟩⟩ (by rw [hs, hs']; omega)
      have hap : (⟨⟨a⟩⟩ : ByteArray) ++ ⟨⟨b⟩⟩ = ⟨⟨a ++ b⟩⟩ := by
        have h2 : ((⟨⟨a⟩⟩ : ByteArray) ++ ⟨⟨b⟩⟩).data = ⟨a ++ b⟩ := by rw [ByteArray.data_append]; simp
        cases hc : (⟨⟨a⟩⟩ : ByteArray) ++ ⟨⟨b⟩⟩ with
        | mk d => rw [hc] at h2; rw [← h2]
      rw [hap] at hr
      simpa [binOp] using hr
  · simp only [Option.some.injEq] at h
    subst h
    refine ⟨?_, rfl⟩
    simp [binOp, Op.stringOp, heq]
  · simp only [Option.some.injEq] at h
    subst h
    refine ⟨?_, rfl⟩
    simp [binOp, Op.stringOp, heq]
  · cases h
theorem guard_int (op : BinOp) (ox oy : Operand) {k j : IntKind} {a b : Int} : (eqGuard op t ox oy (.int k a) (.int j b)).run P w = .ok () w := by
  cases op <;> simp [eqGuard]
theorem guard_str (op : BinOp) (ox oy : Operand) {a b : ByteArray} : (eqGuard op t ox oy (.string a) (.string b)).run P w = .ok () w := by
  cases op <;> simp [eqGuard]
end
end Go.Proofs.YtgjabfpkbcdkcaaGreatDoor
