/- package spec: Fits; package store: Over, Slot. -/
import Derived.Test.YtfmkoemogicdkaaGreatSpec
import Derived.Test.YtfmkoemogicdkaaGreatAt
namespace Go.Proofs.YtfmkoemogicdkaaGreat
set_option linter.unusedVariables false
open Go.RowKit

theorem add_lit (a b c d : Int) (w : World) : Calls Tryz.prog 33 #[.agg #[.int .i64 a, .int .i64 b], .agg #[.int .i64 c, .int .i64 d]] w fun e w' =>
    e = .returned (.tuple #[.agg #[.int .i64 (optR (addF ⟨a, b⟩ ⟨c, d⟩)).cpu, .int .i64 (optR (addF ⟨a, b⟩ ⟨c, d⟩)).mem], .bool (addF ⟨a, b⟩ ⟨c, d⟩).isSome]) ∧ Ext Nothing w w' := add_any ⟨a, b⟩ ⟨c, d⟩ w
def overB (a : AllocD) : Bool := decide (3 ≤ a.state)
theorem over_any (cs : Array Value) (st : Int) (w : World) (hs : cs.size = 11) (hst : cs[10]? = some (.int .i64 st)) :
    Calls Tryz.prog 17 #[.agg cs] w fun e w' => e = .returned (.bool (decide (3 ≤ st))) ∧ Ext Nothing w w' := by
  have hB : Blk (w.alloc (.cells cs 55)) w.heap.size 55 cs := Blk.new _ _ _
  have q : (w.alloc (.cells cs 55)).cell? ⟨w.heap.size, 10, none⟩ = some (.int .i64 st) := (hB.cell 10).trans hst
  have hx : Ext Nothing w (w.alloc (.cells cs 55)) := by (repeat' (first | (with_reducible assumption) | (with_reducible exact Ext.refl _ _) | (with_reducible refine Ext.alloc ?_ _) | (with_reducible refine Ext.drew ?_) | (with_reducible refine Ext.drewN ?_ _) | (with_reducible refine Ext.setCell ?_ (.inl (by simp only [World.size_alloc, World.size_setCell, World.size_drew] <;> omega)) _) | (with_reducible refine Ext.trans ?_ (by assumption) (fun _ _ e => e))))
  clear hst
  go_enter Tryz.func17, Tryz.ntmps17
  go_wp2
  go_ret
  exact ⟨rfl, hx⟩
theorem fits_any (u a m : ResD) (w : World) : Calls Tryz.prog 55 #[u.v, a.v, m.v] w fun e w' => e = .returned (.bool (fitsF u a m)) ∧ Ext Nothing w w' := by
  obtain ⟨u1, u2⟩ := u
  obtain ⟨a1, a2⟩ := a
  obtain ⟨m1, m2⟩ := m
  simp only [ResD.v]
  have hx0 : Ext Nothing w (((w.alloc (.cells #[.int .i64 u1, .int .i64 u2] 35)).alloc (.cells #[.int .i64 a1, .int .i64 a2] 35)).alloc (.cells #[.int .i64 m1, .int .i64 m2] 35)) := by (repeat' (first | (with_reducible assumption) | (with_reducible exact Ext.refl _ _) | (with_reducible refine Ext.alloc ?_ _) | (with_reducible refine Ext.drew ?_) | (with_reducible refine Ext.drewN ?_ _) | (with_reducible refine Ext.setCell ?_ (.inl (by simp only [World.size_alloc, World.size_setCell, World.size_drew] <;> omega)) _) | (with_reducible refine Ext.trans ?_ (by assumption) (fun _ _ e => e))))
  have hC : Blk (((w.alloc (.cells #[.int .i64 u1, .int .i64 u2] 35)).alloc (.cells #[.int .i64 a1, .int .i64 a2] 35)).alloc (.cells #[.int .i64 m1, .int .i64 m2] 35)) (w.heap.size + 1 + 1) 35 #[.int .i64 m1, .int .i64 m2] := Blk.new' _ _ _ (by simp)
  obtain ⟨o, ho⟩ : ∃ o, addF ⟨u1, u2⟩ ⟨a1, a2⟩ = o := ⟨_, rfl⟩
  have hf : fitsF ⟨u1, u2⟩ ⟨a1, a2⟩ ⟨m1, m2⟩ = fitsO o ⟨m1, m2⟩ := by rw [fitsF, ho]
  have HO := Lib.hid ho
  have HF := Lib.hid hf
  clear ho hf
  cases o with
  | none =>
    rw [show fitsO none ⟨m1, m2⟩ = false from rfl] at HF
    go_enter Tryz.func55, Tryz.ntmps55
    go_wp2_with (go_at_call 33; refine (add_lit _ _ _ _ _).mono ?_; rintro e wn ⟨rfl, hn⟩; rw [HO.out]; simp only [optR, Option.getD, Option.isSome])
    go_ret
    exact ⟨by rw [HF.out]; rfl, by (repeat' (first | (with_reducible assumption) | (with_reducible exact Ext.refl _ _) | (with_reducible refine Ext.alloc ?_ _) | (with_reducible refine Ext.drew ?_) | (with_reducible refine Ext.drewN ?_ _) | (with_reducible refine Ext.setCell ?_ (.inl (by simp only [World.size_alloc, World.size_setCell, World.size_drew] <;> omega)) _) | (with_reducible refine Ext.trans ?_ (by assumption) (fun _ _ e => e))))⟩
  | some s =>
    obtain ⟨s1, s2⟩ := s
    rw [show fitsO (some ⟨s1, s2⟩) ⟨m1, m2⟩ = (decide (s1 ≤ m1) && decide (s2 ≤ m2)) from rfl] at HF
    by_cases h1 : s1 ≤ m1
    · by_cases h2 : s2 ≤ m2
      · have e : (decide (s1 ≤ m1) && decide (s2 ≤ m2)) = true := by simp [h1, h2]
        rw [e] at HF
        clear e
        go_enter Tryz.func55, Tryz.ntmps55
        go_wp2_with (go_at_call 33; refine (add_lit _ _ _ _ _).mono ?_; rintro e wn ⟨rfl, hn⟩; rw [HO.out]; simp only [optR, Option.getD, Option.isSome]; have hC1 : Blk (wn.alloc (.cells #[.int .i64 s1, .int .i64 s2] 35)) (w.heap.size + 1 + 1) 35 #[.int .i64 m1, .int .i64 m2] := hC.ext (S := Nothing) (by (repeat' (first | (with_reducible assumption) | (with_reducible exact Ext.refl _ _) | (with_reducible refine Ext.alloc ?_ _) | (with_reducible refine Ext.drew ?_) | (with_reducible refine Ext.drewN ?_ _) | (with_reducible refine Ext.setCell ?_ (.inl (by simp only [World.size_alloc, World.size_setCell, World.size_drew] <;> omega)) _) | (with_reducible refine Ext.trans ?_ (by assumption) (fun _ _ e => e))))) (fun e => e); have q0 : (wn.alloc (.cells #[.int .i64 s1, .int .i64 s2] 35)).cell? ⟨w.heap.size + 1 + 1, 0, none⟩ = some (.int .i64 m1) := hC1.cell 0; have q1 : (wn.alloc (.cells #[.int .i64 s1, .int .i64 s2] 35)).cell? ⟨w.heap.size + 1 + 1, 1, none⟩ = some (.int .i64 m2) := hC1.cell 1)
        go_ret
        exact ⟨by rw [HF.out]; rfl, by (repeat' (first | (with_reducible assumption) | (with_reducible exact Ext.refl _ _) | (with_reducible refine Ext.alloc ?_ _) | (with_reducible refine Ext.drew ?_) | (with_reducible refine Ext.drewN ?_ _) | (with_reducible refine Ext.setCell ?_ (.inl (by simp only [World.size_alloc, World.size_setCell, World.size_drew] <;> omega)) _) | (with_reducible refine Ext.trans ?_ (by assumption) (fun _ _ e => e))))⟩
      · have e : (decide (s1 ≤ m1) && decide (s2 ≤ m2)) = false := by simp [h2]
        rw [e] at HF
        clear e
        go_enter Tryz.func55, Tryz.ntmps55
        go_wp2_with (go_at_call 33; refine (add_lit _ _ _ _ _).mono ?_; rintro e wn ⟨rfl, hn⟩; rw [HO.out]; simp only [optR, Option.getD, Option.isSome]; have hC1 : Blk (wn.alloc (.cells #[.int .i64 s1, .int .i64 s2] 35)) (w.heap.size + 1 + 1) 35 #[.int .i64 m1, .int .i64 m2] := hC.ext (S := Nothing) (by (repeat' (first | (with_reducible assumption) | (with_reducible exact Ext.refl _ _) | (with_reducible refine Ext.alloc ?_ _) | (with_reducible refine Ext.drew ?_) | (with_reducible refine Ext.drewN ?_ _) | (with_reducible refine Ext.setCell ?_ (.inl (by simp only [World.size_alloc, World.size_setCell, World.size_drew] <;> omega)) _) | (with_reducible refine Ext.trans ?_ (by assumption) (fun _ _ e => e))))) (fun e => e); have q0 : (wn.alloc (.cells #[.int .i64 s1, .int .i64 s2] 35)).cell? ⟨w.heap.size + 1 + 1, 0, none⟩ = some (.int .i64 m1) := hC1.cell 0; have q1 : (wn.alloc (.cells #[.int .i64 s1, .int .i64 s2] 35)).cell? ⟨w.heap.size + 1 + 1, 1, none⟩ = some (.int .i64 m2) := hC1.cell 1)
        go_ret
        exact ⟨by rw [HF.out]; rfl, by (repeat' (first | (with_reducible assumption) | (with_reducible exact Ext.refl _ _) | (with_reducible refine Ext.alloc ?_ _) | (with_reducible refine Ext.drew ?_) | (with_reducible refine Ext.drewN ?_ _) | (with_reducible refine Ext.setCell ?_ (.inl (by simp only [World.size_alloc, World.size_setCell, World.size_drew] <;> omega)) _) | (with_reducible refine Ext.trans ?_ (by assumption) (fun _ _ e => e))))⟩
    · have e : (decide (s1 ≤ m1) && decide (s2 ≤ m2)) = false := by simp [h1]
      rw [e] at HF
      clear e
      go_enter Tryz.func55, Tryz.ntmps55
      go_wp2_with (go_at_call 33; refine (add_lit _ _ _ _ _).mono ?_; rintro e wn ⟨rfl, hn⟩; rw [HO.out]; simp only [optR, Option.getD, Option.isSome]; have hC1 : Blk (wn.alloc (.cells #[.int .i64 s1, .int .i64 s2] 35)) (w.heap.size + 1 + 1) 35 #[.int .i64 m1, .int .i64 m2] := hC.ext (S := Nothing) (by (repeat' (first | (with_reducible assumption) | (with_reducible exact Ext.refl _ _) | (with_reducible refine Ext.alloc ?_ _) | (with_reducible refine Ext.drew ?_) | (with_reducible refine Ext.drewN ?_ _) | (with_reducible refine Ext.setCell ?_ (.inl (by simp only [World.size_alloc, World.size_setCell, World.size_drew] <;> omega)) _) | (with_reducible refine Ext.trans ?_ (by assumption) (fun _ _ e => e))))) (fun e => e); have q0 : (wn.alloc (.cells #[.int .i64 s1, .int .i64 s2] 35)).cell? ⟨w.heap.size + 1 + 1, 0, none⟩ = some (.int .i64 m1) := hC1.cell 0; have q1 : (wn.alloc (.cells #[.int .i64 s1, .int .i64 s2] 35)).cell? ⟨w.heap.size + 1 + 1, 1, none⟩ = some (.int .i64 m2) := hC1.cell 1)
      go_ret
      exact ⟨by rw [HF.out]; rfl, by (repeat' (first | (with_reducible assumption) | (with_reducible exact Ext.refl _ _) | (with_reducible refine Ext.alloc ?_ _) | (with_reducible refine Ext.drew ?_) | (with_reducible refine Ext.drewN ?_ _) | (with_reducible refine Ext.setCell ?_ (.inl (by simp only [World.size_alloc, World.size_setCell, World.size_drew] <;> omega)) _) | (with_reducible refine Ext.trans ?_ (by assumption) (fun _ _ e => e))))⟩
end Go.Proofs.YtfmkoemogicdkaaGreat
