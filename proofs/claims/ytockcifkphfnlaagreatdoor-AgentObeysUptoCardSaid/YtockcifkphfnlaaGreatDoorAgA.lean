/- A decimal numeral reads as its number; Atoi and Itoa at this program. -/
import Derived.Test.YtockcifkphfnlaaGreatDoorAgLay2
import Derived.Test.YtockcifkphfnlaaGreatDoorAg1
import Derived.Lib.Atoi
import Derived.Lib.AtoiErrMem
import Derived.Lib.ItoaNum
import Derived.Lib.ItoaLen
namespace Go.Proofs.YtockcifkphfnlaaGreatDoor
set_option linter.unusedVariables false
set_option linter.unusedSimpArgs false
open Go.RowKit Go.Lib

theorem decFrom_app : ∀ (l r : List UInt8) (acc : Nat), decFrom acc (l ++ r) = (decFrom acc l).bind (fun n => decFrom n r)
  | [], r, acc => rfl
  | b :: t, r, acc => by
    rw [List.cons_append]
    show (match digitVal b with | some d => decFrom (acc * 10 + d) (t ++ r) | none => none) = ((match digitVal b with | some d => decFrom (acc * 10 + d) t | none => none) : Option Nat).bind (fun n => decFrom n r)
    cases digitVal b with
    | none => rfl
    | some d => exact decFrom_app t r _
theorem digit_of (n : Nat) (h : n < 10) : digitVal (UInt8.ofNat (48 + n)) = some n := by
  have e : (UInt8.ofNat (48 + n)).toNat = 48 + n := by rw [UInt8.toNat_ofNat']; omega
  unfold digitVal
  rw [e, if_pos (by omega)]
  congr 1
  omega
theorem dec_digits (u : Nat) : decFrom 0 (decDigits u) = some u := by
  induction u using Nat.strongRecOn with
  | ind u ih =>
    rw [decDigits]
    split
    · rename_i h
      unfold decFrom
      rw [digit_of u h]
      simp [decFrom]
    · rename_i h
      rw [decFrom_app, ih (u / 10) (by omega)]
      show decFrom (u / 10) [UInt8.ofNat (48 + u % 10)] = some u
      unfold decFrom
      rw [digit_of _ (Nat.mod_lt _ (by omega))]
      simp only [decFrom]
      congr 1
      omega
theorem dec_head (u : Nat) : ∃ (b : UInt8) (r : List UInt8), decDigits u = b :: r ∧ 48 ≤ b.toNat ∧ b.toNat ≤ 57 := by
  induction u using Nat.strongRecOn with
  | ind u ih =>
    rw [decDigits]
    split
    · rename_i h
      refine ⟨_, [], rfl, ?_⟩
      rw [UInt8.toNat_ofNat']
      omega
    · rename_i h
      obtain ⟨b, r, e, h1⟩ := ih (u / 10) (by omega)
      exact ⟨b, r ++ [UInt8.ofNat (48 + u % 10)], by rw [e]; rfl, h1⟩
theorem atoi_itoa_pos (k : Int) (h : 0 ≤ k) : atoi (itoa k) = some k := by
  obtain ⟨b, r, e, h1, h2⟩ := dec_head k.toNat
  have hd := dec_digits k.toNat
  unfold itoa
  rw [if_neg (by omega), e]
  rw [e] at hd
  have n1 : (b == 45) = false := by rw [beq_eq_false_iff_ne]; rintro rfl; revert h1; decide
  have n2 : (b == 43) = false := by rw [beq_eq_false_iff_ne]; rintro rfl; revert h1; decide
  unfold atoi
  simp only [n1, n2, Bool.false_eq_true, if_false]
  unfold decNat
  simp only [List.isEmpty_cons, Bool.false_eq_true, if_false]
  rw [hd]
  simp only [Option.map_some]
  congr 1
  omega
theorem nD : ∀ (n u : Nat), u < 10 ^ (n + 1) → nDigits u ≤ n + 1
  | 0, u, h => by rw [nDigits_small (by simpa using h)]; exact Nat.le_refl _
  | n + 1, u, h => by
    by_cases hu : u < 10
    · rw [nDigits_small hu]; omega
    · rw [nDigits_big hu]
      have := nD n (u / 10) (by rw [Nat.div_lt_iff_lt_mul (by omega), ← Nat.pow_succ]; exact h)
      omega
theorem agAtoi (k : Int) (w : World) (h0 : 0 ≤ k) (h1 : k ≤ 1099511627776) : Calls Tryz.prog 21 #[strV (itoa k)] w fun e w' => e = .returned (.tuple #[.int .i64 k, .nilIface]) ∧ Ext Nothing w w' := by
  have hl : (itoa k).length ≤ 18 := by
    unfold itoa
    rw [if_neg (by omega)]
    rw [decDigits_length]
    exact Nat.le_trans (nD 12 k.toNat (by omega)) (by decide)
  refine (Any.strconv_Atoi Tryz.lays172 ⟨(itoa k).toArray⟩ k (show (itoa k).toArray.size ≤ 18 by rw [List.size_toArray]; exact hl) (by simpa using atoi_itoa_pos k h0) w).mono ?_
  rintro e w' ⟨rfl, t, rfl⟩
  exact ⟨rfl, Ext.of_below' (bytesWorld_below w _ t)⟩
theorem agItoa (k : Int) (w : World) (h0 : 0 ≤ k) (h1 : k ≤ 1099511627776) (htab : HTab w) : Calls Tryz.prog 22 #[.int .i64 k] w fun e w' => e = .returned (strV (itoa k)) ∧ Ext Nothing w w' := by
  refine (Any.strconv_Itoa Tryz.laysM171 k (by omega) (by omega) w htab).mono ?_
  rintro e w' ⟨rfl, n, os, rfl⟩
  exact ⟨rfl, Ext.of_below' (below_grow _ w (Nat.le_refl _) n os)⟩
end Go.Proofs.YtockcifkphfnlaaGreatDoor
