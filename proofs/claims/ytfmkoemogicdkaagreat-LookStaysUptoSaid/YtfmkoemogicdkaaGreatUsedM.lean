/- What is used on a node, with more. (printed by wip/gen/fit2.py) -/
import Derived.Test.YtfmkoemogicdkaaGreatUsed
namespace Go.Proofs.YtfmkoemogicdkaaGreat
set_option linter.unusedVariables false
open Go.RowKit

set_option maxHeartbeats 2000000 in
theorem usedM_any (AA : Option Addr) (nA cA : Nat) (l : List AllocD) (AM : Option Addr) (nM cM : Nat) (more : List AllocD) (node : Int) (w : World) (s0 s1 s2 s3 s4 s6 s7 s8 : Value) (hl : Sl w 11 AA nA (l.map AllocD.cells)) (hn : nA ≤ 67108864) (hmo : Sl w 11 AM nM (more.map AllocD.cells)) (hnM : nM ≤ 2000000000000) :
    Calls Tryz.prog 54 #[.agg #[s0, s1, s2, s3, s4, .slice AA nA cA, s6, s7, s8], .slice AM nM cM, .int .i64 node] w fun e w' => e = .returned (.tuple #[.agg #[.int .i64 (optR (usedM l more node)).cpu, .int .i64 (optR (usedM l more node)).mem], .bool (usedM l more node).isSome]) ∧ Ext Nothing w w' := by
  have hlen := Lib.hid hmo.len
  have hx0 : Ext Nothing w ((w.alloc (.cells #[s0, s1, s2, s3, s4, .slice AA nA cA, s6, s7, s8] 29)).alloc (.cells #[.int .i64 0, .int .i64 0] 35)) := by (repeat' (first | (with_reducible assumption) | (with_reducible exact Ext.refl _ _) | (with_reducible refine Ext.alloc ?_ _) | (with_reducible refine Ext.drew ?_) | (with_reducible refine Ext.drewN ?_ _) | (with_reducible refine Ext.setCell ?_ (.inl (by simp only [World.size_alloc, World.size_setCell, World.size_drew] <;> omega)) _) | (with_reducible refine Ext.trans ?_ (by assumption) (fun _ _ e => e))))
  have hRX : Blk ((w.alloc (.cells #[s0, s1, s2, s3, s4, .slice AA nA cA, s6, s7, s8] 29)).alloc (.cells #[.int .i64 0, .int .i64 0] 35)) (w.heap.size + 1) 35 #[.int .i64 0, .int .i64 0] := Blk.new' _ _ _ (by simp)
  go_enter Tryz.func54, Tryz.ntmps54
  go_wp2_with (go_at_call 16; refine (used_any AA nA cA l node _ s0 s1 s2 s3 s4 s6 s7 s8 (hl.ext0 hx0) hn).mono ?_; rintro e w1 ⟨rfl, hx1⟩)
  have hx01 : Ext Nothing w w1 := hx0.trans hx1 (fun _ _ e => e)
  have hz1 := hx01.size
  have hR1 := hRX.ext hx1 (fun e => e)
  have hltR := hR1.lt
  have hRY : Blk (w1.alloc (.cells #[.int .i64 (usedS l node).cpu, .int .i64 (usedS l node).mem] 35)) (w.heap.size + 1) 35 #[.int .i64 0, .int .i64 0] := hR1.ext (S := Nothing) (by (repeat' (first | (with_reducible assumption) | (with_reducible exact Ext.refl _ _) | (with_reducible refine Ext.alloc ?_ _) | (with_reducible refine Ext.drew ?_) | (with_reducible refine Ext.drewN ?_ _) | (with_reducible refine Ext.setCell ?_ (.inl (by simp only [World.size_alloc, World.size_setCell, World.size_drew] <;> omega)) _) | (with_reducible refine Ext.trans ?_ (by assumption) (fun _ _ e => e))))) (fun e => e)
  have hSY : Blk (w1.alloc (.cells #[.int .i64 (usedS l node).cpu, .int .i64 (usedS l node).mem] 35)) w1.heap.size 35 #[.int .i64 (usedS l node).cpu, .int .i64 (usedS l node).mem] := Blk.new _ _ _
  have hxY : Ext Nothing w (w1.alloc (.cells #[.int .i64 (usedS l node).cpu, .int .i64 (usedS l node).mem] 35)) := by (repeat' (first | (with_reducible assumption) | (with_reducible exact Ext.refl _ _) | (with_reducible refine Ext.alloc ?_ _) | (with_reducible refine Ext.drew ?_) | (with_reducible refine Ext.drewN ?_ _) | (with_reducible refine Ext.setCell ?_ (.inl (by simp only [World.size_alloc, World.size_setCell, World.size_drew] <;> omega)) _) | (with_reducible refine Ext.trans ?_ (by assumption) (fun _ _ e => e))))
  go_loopw [17] (fun i wr => ∃ k : Nat, k ≤ nM ∧ i = .int .i64 k ∧ ∃ r1 r2 : Int, (more.take k).foldl (moreStep node) (some (usedS l node)) = some ⟨r1, r2⟩ ∧ Blk wr (w.heap.size + 1) 35 #[.int .i64 0, .int .i64 0] ∧ Blk wr w1.heap.size 35 #[.int .i64 r1, .int .i64 r2] ∧ Ext Nothing w wr) (fun i _ => nM - (intOf i).toNat)
  case atStart => exact ⟨0, Nat.zero_le _, rfl, (usedS l node).cpu, (usedS l node).mem, rfl, hRY, hSY, hxY⟩
  case round =>
    obtain ⟨k, hk, rfl, r1, r2, hf, hR, hS, hx⟩ := hrel
    have hwz := hx.size
    by_cases hlt : k < nM
    · obtain ⟨hjn, b, off, rfl, hce⟩ := hmo.get hx hlt
      have hst := foldl_take (moreStep node) (some (usedS l node)) more k hjn
      have htd : more = more.take (k + 1) ++ more.drop (k + 1) := (List.take_append_drop _ _).symm
      rw [hf] at hst
      generalize more[k] = a at hce hst
      obtain ⟨x0, x1, x2, x3, x4, x5, x6, ⟨x7, x8⟩, x9, x10⟩ := a
      simp only [AllocD.cells] at hce
      have hxB : Ext Nothing wr (wr.alloc (.cells #[.int .i64 x0, .int .i64 x1, .int .i64 x2, .int .i64 x3, .int .i64 x4, .int .i64 x5, .int .i64 x6, .int .i64 x7, .int .i64 x8, .bool x9, .int .i64 x10] 55)) := by (repeat' (first | (with_reducible assumption) | (with_reducible exact Ext.refl _ _) | (with_reducible refine Ext.alloc ?_ _) | (with_reducible refine Ext.drew ?_) | (with_reducible refine Ext.drewN ?_ _) | (with_reducible refine Ext.setCell ?_ (.inl (by simp only [World.size_alloc, World.size_setCell, World.size_drew] <;> omega)) _) | (with_reducible refine Ext.trans ?_ (by assumption) (fun _ _ e => e))))
      have hSB := Blk.ext (S := Nothing) hS hxB (fun e => e)
      have hRB := Blk.ext (S := Nothing) hR hxB (fun e => e)
      have hltS := hS.lt
      by_cases e1 : x5 = node
      · subst e1
        have hst' : (more.take (k + 1)).foldl (moreStep x5) (some (usedS l x5)) = addF ⟨r1, r2⟩ ⟨x7, x8⟩ := by rw [hst]; simp [moreStep]
        clear hst hf
        have c0 : (wr.alloc (.cells #[.int .i64 x0, .int .i64 x1, .int .i64 x2, .int .i64 x3, .int .i64 x4, .int .i64 x5, .int .i64 x6, .int .i64 x7, .int .i64 x8, .bool x9, .int .i64 x10] 55)).cell? ⟨w1.heap.size, 0, none⟩ = some (.int .i64 r1) := hSB.cell 0
        have c1 : (wr.alloc (.cells #[.int .i64 x0, .int .i64 x1, .int .i64 x2, .int .i64 x3, .int .i64 x4, .int .i64 x5, .int .i64 x6, .int .i64 x7, .int .i64 x8, .bool x9, .int .i64 x10] 55)).cell? ⟨w1.heap.size, 1, none⟩ = some (.int .i64 r2) := hSB.cell 1
        cases ha : addF ⟨r1, r2⟩ ⟨x7, x8⟩ with
        | none =>
          have H := Lib.hid (show usedM l more x5 = none by unfold usedM; rw [htd, List.foldl_append, hst', ha, more_none])
          have HA := Lib.hid ha
          clear hst' htd ha
          go_wp2_with (first | (refine wpList_load_at rfl 55 _ rfl STAlloc b (off + k * 11) rfl #[.int .i64 x0, .int .i64 x1, .int .i64 x2, .int .i64 x3, .int .i64 x4, .int .i64 x5, .int .i64 x6, .int .i64 x7, .int .i64 x8, .bool x9, .int .i64 x10] (by exact hce) rfl ?_) | (go_at_call 33; refine (add_lit _ _ _ _ _).mono ?_; rintro e w3 ⟨rfl, hx3⟩; rw [HA.out]; simp only [optR, Option.getD_none, Option.isSome_none]; have hx03 := hxB.trans hx3 (fun _ _ e => e); have hS3 := hS.ext hx03 (fun e => e); have hR3 := hR.ext hx03 (fun e => e); have d0 : w3.cell? ⟨w1.heap.size, 0, none⟩ = some (.int .i64 r1) := hS3.cell 0; have d1 : w3.cell? ⟨w1.heap.size, 1, none⟩ = some (.int .i64 r2) := hS3.cell 1; have f0 : w3.frozen? ⟨w1.heap.size, 0, none⟩ = false := hS3.frozen 0; have f1 : w3.frozen? ⟨w1.heap.size, 1, none⟩ = false := hS3.frozen 1; have g0 : w3.cell? ⟨w.heap.size + 1, 0, none⟩ = some (.int .i64 0) := hR3.cell 0; have g1 : w3.cell? ⟨w.heap.size + 1, 1, none⟩ = some (.int .i64 0) := hR3.cell 1; have h0 : w3.frozen? ⟨w.heap.size + 1, 0, none⟩ = false := hR3.frozen 0; have h1 : w3.frozen? ⟨w.heap.size + 1, 1, none⟩ = false := hR3.frozen 1))
          refine bodyPost_ret (results_cell_tmp rfl STRes (g := w.heap.size + 1) rfl (((hR3.ext (Ext.set1 _ _ _ _) (by omega)).ext (Ext.set1 _ _ _ _) (by omega)) |>.set_ 0 _ |>.set_ 1 _) rfl) rfl ?_
          rw [H.out]
          refine ⟨rfl, ?_⟩
          have h3 := (hx.trans hxB (fun _ _ e => e)).trans hx3 (fun _ _ e => e)
          (repeat' (first | (with_reducible assumption) | (with_reducible exact Ext.refl _ _) | (with_reducible refine Ext.alloc ?_ _) | (with_reducible refine Ext.drew ?_) | (with_reducible refine Ext.drewN ?_ _) | (with_reducible refine Ext.setCell ?_ (.inl (by simp only [World.size_alloc, World.size_setCell, World.size_drew] <;> omega)) _) | (with_reducible refine Ext.trans ?_ (by assumption) (fun _ _ e => e))))
        | some r =>
          obtain ⟨r3, r4⟩ := r
          have H := Lib.hid (show (more.take (k + 1)).foldl (moreStep x5) (some (usedS l x5)) = some ⟨r3, r4⟩ by rw [hst', ha])
          have HA := Lib.hid ha
          clear hst' htd ha
          go_wp2_with (first | (refine wpList_load_at rfl 55 _ rfl STAlloc b (off + k * 11) rfl #[.int .i64 x0, .int .i64 x1, .int .i64 x2, .int .i64 x3, .int .i64 x4, .int .i64 x5, .int .i64 x6, .int .i64 x7, .int .i64 x8, .bool x9, .int .i64 x10] (by exact hce) rfl ?_) | (go_at_call 33; refine (add_lit _ _ _ _ _).mono ?_; rintro e w3 ⟨rfl, hx3⟩; rw [HA.out]; simp only [optR, Option.getD_some, Option.isSome_some]; have hx03 := hxB.trans hx3 (fun _ _ e => e); have hS3 := hS.ext hx03 (fun e => e); have hR3 := hR.ext hx03 (fun e => e); have d0 : w3.cell? ⟨w1.heap.size, 0, none⟩ = some (.int .i64 r1) := hS3.cell 0; have d1 : w3.cell? ⟨w1.heap.size, 1, none⟩ = some (.int .i64 r2) := hS3.cell 1; have f0 : w3.frozen? ⟨w1.heap.size, 0, none⟩ = false := hS3.frozen 0; have f1 : w3.frozen? ⟨w1.heap.size, 1, none⟩ = false := hS3.frozen 1; have g0 : w3.cell? ⟨w.heap.size + 1, 0, none⟩ = some (.int .i64 0) := hR3.cell 0; have g1 : w3.cell? ⟨w.heap.size + 1, 1, none⟩ = some (.int .i64 0) := hR3.cell 1; have h0 : w3.frozen? ⟨w.heap.size + 1, 0, none⟩ = false := hR3.frozen 0; have h1 : w3.frozen? ⟨w.heap.size + 1, 1, none⟩ = false := hR3.frozen 1))
          go_roundw
          case rel =>
            have h3 := (hx.trans hxB (fun _ _ e => e)).trans hx3 (fun _ _ e => e)
            exact ⟨k + 1, by omega, by go_num, r3, r4, H.out, (hR3.ext (Ext.set1 _ _ _ _) (by omega)).ext (Ext.set1 _ _ _ _) (by omega), (hS3.set_ 0 _).set_ 1 _, by (repeat' (first | (with_reducible assumption) | (with_reducible exact Ext.refl _ _) | (with_reducible refine Ext.alloc ?_ _) | (with_reducible refine Ext.drew ?_) | (with_reducible refine Ext.drewN ?_ _) | (with_reducible refine Ext.setCell ?_ (.inl (by simp only [World.size_alloc, World.size_setCell, World.size_drew] <;> omega)) _) | (with_reducible refine Ext.trans ?_ (by assumption) (fun _ _ e => e))))⟩
          case measure => simp [intOf]; omega
      · have H := Lib.hid (show (more.take (k + 1)).foldl (moreStep node) (some (usedS l node)) = some ⟨r1, r2⟩ by rw [hst]; simp [moreStep, e1])
        have e1a : (x5 == node) = false := by simpa using e1
        clear hst hf htd
        go_wp2_with (refine wpList_load_at rfl 55 _ rfl STAlloc b (off + k * 11) rfl #[.int .i64 x0, .int .i64 x1, .int .i64 x2, .int .i64 x3, .int .i64 x4, .int .i64 x5, .int .i64 x6, .int .i64 x7, .int .i64 x8, .bool x9, .int .i64 x10] (by exact hce) rfl ?_)
        go_roundw
        case rel => exact ⟨k + 1, by omega, by go_num, r1, r2, H.out, hRB, hSB, hx.trans hxB (fun _ _ e => e)⟩
        case measure => simp [intOf]; omega
    · have hall := foldl_all (moreStep node) (some (usedS l node)) more k (by have := hlen.out; omega)
      rw [hall] at hf
      have H := Lib.hid (show usedM l more node = some ⟨r1, r2⟩ by unfold usedM; rw [hf])
      clear hf hall
      have c0 : wr.cell? ⟨w1.heap.size, 0, none⟩ = some (.int .i64 r1) := hS.cell 0
      have c1 : wr.cell? ⟨w1.heap.size, 1, none⟩ = some (.int .i64 r2) := hS.cell 1
      have d0 : wr.cell? ⟨w.heap.size + 1, 0, none⟩ = some (.int .i64 0) := hR.cell 0
      have d1 : wr.cell? ⟨w.heap.size + 1, 1, none⟩ = some (.int .i64 0) := hR.cell 1
      have f0 : wr.frozen? ⟨w.heap.size + 1, 0, none⟩ = false := hR.frozen 0
      have f1 : wr.frozen? ⟨w.heap.size + 1, 1, none⟩ = false := hR.frozen 1
      go_wp2
      refine bodyPost_ret (results_cell_tmp rfl STRes (g := w.heap.size + 1) rfl ((hR.set_ 0 _).set_ 1 _) rfl) rfl ?_
      rw [H.out]
      exact ⟨rfl, by (repeat' (first | (with_reducible assumption) | (with_reducible exact Ext.refl _ _) | (with_reducible refine Ext.alloc ?_ _) | (with_reducible refine Ext.drew ?_) | (with_reducible refine Ext.drewN ?_ _) | (with_reducible refine Ext.setCell ?_ (.inl (by simp only [World.size_alloc, World.size_setCell, World.size_drew] <;> omega)) _) | (with_reducible refine Ext.trans ?_ (by assumption) (fun _ _ e => e))))⟩
end Go.Proofs.YtfmkoemogicdkaaGreat
