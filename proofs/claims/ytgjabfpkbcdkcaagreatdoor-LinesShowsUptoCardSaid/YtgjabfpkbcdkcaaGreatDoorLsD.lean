/- The document's Digits, plain: a number's word digit by digit. No program is named. -/
import Derived.Lib.ItoaNum
import Derived.WalkKit
namespace Go.Proofs.YtgjabfpkbcdkcaaGreatDoor
set_option linter.unusedVariables false
open Go.Lib

theorem tdiv_abs (r : Int) : (r.tdiv 10).natAbs = r.natAbs / 10 := by
  rw [Int.natAbs_tdiv]
  rfl
theorem tmod_abs (r : Int) : (r.tmod 10).natAbs = r.natAbs % 10 := by
  have h1 := Int.tmod_add_mul_tdiv r 10
  have h2 := tdiv_abs r
  have h3 : (0 : Int) ≤ r ∨ r < 0 := by omega
  rcases h3 with h | h
  · rw [Int.tmod_eq_emod_of_nonneg h]
    omega
  · have h4 : r.tmod 10 = -((-r) % 10) := by
      have h5 := Int.neg_tmod r 10
      rw [Int.tmod_eq_emod_of_nonneg (by omega)] at h5
      omega
    rw [h4]
    omega
theorem dig_end {r : Int} (h : r.tdiv 10 = 0) : decDigits r.natAbs = [UInt8.ofNat (48 + (r.tmod 10).natAbs)] := by
  have h1 := tdiv_abs r
  rw [h] at h1
  have h2 : r.natAbs < 10 := by simp at h1; omega
  rw [tmod_abs, decDigits, dif_pos h2, Nat.mod_eq_of_lt h2]
theorem dig_go {r : Int} (h : r.tdiv 10 ≠ 0) : decDigits r.natAbs = decDigits (r.tdiv 10).natAbs ++ [UInt8.ofNat (48 + (r.tmod 10).natAbs)] := by
  have h1 := tdiv_abs r
  have h2 : ¬ r.natAbs < 10 := by
    intro e
    have h3 : (r.tdiv 10).natAbs = 0 := by rw [h1]; omega
    exact h (Int.natAbs_eq_zero.1 h3)
  rw [tmod_abs, h1]
  conv => lhs; rw [decDigits, dif_neg h2]
theorem itoa_abs (n : Int) : itoa n = if n < 0 then 45 :: decDigits n.natAbs else decDigits n.natAbs := by
  unfold itoa
  split
  · rfl
  · rw [show n.toNat = n.natAbs by omega]
/-- an answer, as it is shown -/
structure ShowD where
  client : Int
  req : Int
  index : Int
  code : Int
  value : Int
  allocs : Nat
def showOne (x : ShowD) : List UInt8 := 32 :: itoa x.client ++ 47 :: itoa x.req ++ 47 :: itoa x.index ++ 47 :: itoa x.code ++ 47 :: itoa x.value ++ 47 :: itoa x.allocs
def showF (l : List ShowD) (e : Int) : List UInt8 := (if e = 0 then [111, 107] else [101, 114, 114, 111, 114, 32] ++ itoa e) ++ l.flatMap showOne
theorem showF_snoc (l : List ShowD) (e : Int) (t : Nat) (x : ShowD) (h : l[t]? = some x) : showF (l.take (t + 1)) e = showF (l.take t) e ++ showOne x := by
  unfold showF
  rw [List.take_add_one, h, List.flatMap_append]
  simp [List.append_assoc]
end Go.Proofs.YtgjabfpkbcdkcaaGreatDoor
