/- What is used on a node. (printed by wip/gen/fit.py) -/
import Derived.Test.YtfmkoemogicdkaaGreatDiffF
namespace Go.Proofs.YtfmkoemogicdkaaGreat
set_option linter.unusedVariables false
open Go.RowKit

theorem use_none (node : Int) : ∀ l : List AllocD, l.foldl (useStep node) none = none
  | [] => rfl
  | x :: r => by rw [List.foldl_cons]; exact use_none node r
theorem more_none (node : Int) : ∀ l : List AllocD, l.foldl (moreStep node) none = none
  | [] => rfl
  | x :: r => by rw [List.foldl_cons]; exact more_none node r

set_option maxHeartbeats 2000000 in
theorem used_any (AA : Option Addr) (nA cA : Nat) (l : List AllocD) (node : Int) (w : World) (s0 s1 s2 s3 s4 s6 s7 s8 : Value) (hl : Sl w 11 AA nA (l.map AllocD.cells)) (hn : nA ≤ 67108864) :
    Calls Tryz.prog 16 #[.agg #[s0, s1, s2, s3, s4, .slice AA nA cA, s6, s7, s8], .int .i64 node] w fun e w' => e = .returned (.agg #[.int .i64 (usedS l node).cpu, .int .i64 (usedS l node).mem]) ∧ Ext Nothing w w' := by
  have hlen := Lib.hid hl.len
  have hx0 : Ext Nothing w (((w.alloc (.cells #[s0, s1, s2, s3, s4, .slice AA nA cA, s6, s7, s8] 29)).alloc (.cells #[.int .i64 0, .int .i64 0] 35)).alloc (.cells #[.int .i64 0, .int .i64 0] 35)) := by (repeat' (first | (with_reducible assumption) | (with_reducible exact Ext.refl _ _) | (with_reducible refine Ext.alloc ?_ _) | (with_reducible refine Ext.drew ?_) | (with_reducible refine Ext.drewN ?_ _) | (with_reducible refine Ext.setCell ?_ (.inl (by simp only [World.size_alloc, World.size_setCell, World.size_drew] <;> omega)) _) | (with_reducible refine Ext.trans ?_ (by assumption) (fun _ _ e => e))))
  have hR0 : Blk (((w.alloc (.cells #[s0, s1, s2, s3, s4, .slice AA nA cA, s6, s7, s8] 29)).alloc (.cells #[.int .i64 0, .int .i64 0] 35)).alloc (.cells #[.int .i64 0, .int .i64 0] 35)) (w.heap.size + 1) 35 #[.int .i64 0, .int .i64 0] := (Blk.new' (w.alloc (.cells #[s0, s1, s2, s3, s4, .slice AA nA cA, s6, s7, s8] 29)) _ _ (by simp)).ext (S := Nothing) (by (repeat' (first | (with_reducible assumption) | (with_reducible exact Ext.refl _ _) | (with_reducible refine Ext.alloc ?_ _) | (with_reducible refine Ext.drew ?_) | (with_reducible refine Ext.drewN ?_ _) | (with_reducible refine Ext.setCell ?_ (.inl (by simp only [World.size_alloc, World.size_setCell, World.size_drew] <;> omega)) _) | (with_reducible refine Ext.trans ?_ (by assumption) (fun _ _ e => e))))) (fun e => e)
  have hS0 : Blk (((w.alloc (.cells #[s0, s1, s2, s3, s4, .slice AA nA cA, s6, s7, s8] 29)).alloc (.cells #[.int .i64 0, .int .i64 0] 35)).alloc (.cells #[.int .i64 0, .int .i64 0] 35)) (w.heap.size + 1 + 1) 35 #[.int .i64 0, .int .i64 0] := Blk.new' _ _ _ (by simp)
  go_enter Tryz.func16, Tryz.ntmps16
  go_wp2
  go_loopw [12] (fun i wr => ∃ k : Nat, k ≤ nA ∧ i = .int .i64 k ∧ ∃ r1 r2 : Int, (l.take k).foldl (useStep node) (some ⟨0, 0⟩) = some ⟨r1, r2⟩ ∧ Blk wr (w.heap.size + 1) 35 #[.int .i64 0, .int .i64 0] ∧ Blk wr (w.heap.size + 1 + 1) 35 #[.int .i64 r1, .int .i64 r2] ∧ Ext Nothing w wr) (fun i _ => nA - (intOf i).toNat)
  case atStart => exact ⟨0, Nat.zero_le _, rfl, 0, 0, rfl, hR0, hS0, hx0⟩
  case round =>
    obtain ⟨k, hk, rfl, r1, r2, hf, hR, hS, hx⟩ := hrel
    have hwz := hx.size
    have hltS := hS.lt
    by_cases hlt : k < nA
    · obtain ⟨hjn, b, off, rfl, hce⟩ := hl.get hx hlt
      have hst := foldl_take (useStep node) (some ⟨0, 0⟩) l k hjn
      have htd : l = l.take (k + 1) ++ l.drop (k + 1) := (List.take_append_drop _ _).symm
      rw [hf] at hst
      generalize l[k] = a at hce hst
      obtain ⟨x0, x1, x2, x3, x4, x5, x6, ⟨x7, x8⟩, x9, x10⟩ := a
      simp only [AllocD.cells] at hce
      have hxB : Ext Nothing wr (wr.alloc (.cells #[.int .i64 x0, .int .i64 x1, .int .i64 x2, .int .i64 x3, .int .i64 x4, .int .i64 x5, .int .i64 x6, .int .i64 x7, .int .i64 x8, .bool x9, .int .i64 x10] 55)) := by (repeat' (first | (with_reducible assumption) | (with_reducible exact Ext.refl _ _) | (with_reducible refine Ext.alloc ?_ _) | (with_reducible refine Ext.drew ?_) | (with_reducible refine Ext.drewN ?_ _) | (with_reducible refine Ext.setCell ?_ (.inl (by simp only [World.size_alloc, World.size_setCell, World.size_drew] <;> omega)) _) | (with_reducible refine Ext.trans ?_ (by assumption) (fun _ _ e => e))))
      have hSB := Blk.ext (S := Nothing) hS hxB (fun e => e)
      have hRB := Blk.ext (S := Nothing) hR hxB (fun e => e)
      by_cases e1 : x5 = node
      · subst e1
        cases e2 : decide (3 ≤ x10) with
        | true =>
          have H := Lib.hid (show (l.take (k + 1)).foldl (useStep x5) (some ⟨0, 0⟩) = some ⟨r1, r2⟩ by rw [hst]; simp [useStep, overB, of_decide_eq_true e2])
          have HO := Lib.hid e2
          clear hst hf htd e2
          go_wp2_with (first | (refine wpList_load_at rfl 55 _ rfl STAlloc b (off + k * 11) rfl #[.int .i64 x0, .int .i64 x1, .int .i64 x2, .int .i64 x3, .int .i64 x4, .int .i64 x5, .int .i64 x6, .int .i64 x7, .int .i64 x8, .bool x9, .int .i64 x10] (by exact hce) rfl ?_) | (go_at_call 17; refine (over_any _ x10 _ rfl rfl).mono ?_; rintro e w2 ⟨rfl, hx2⟩; rw [HO.out]))
          go_roundw
          case rel => exact ⟨k + 1, by omega, by go_num, r1, r2, H.out, hRB.ext hx2 (fun e => e), hSB.ext hx2 (fun e => e), (hx.trans hxB (fun _ _ e => e)).trans hx2 (fun _ _ e => e)⟩
          case measure => simp [intOf]; omega
        | false =>
          have HO := Lib.hid e2
          have e3 := of_decide_eq_false e2
          have hst' : (l.take (k + 1)).foldl (useStep x5) (some ⟨0, 0⟩) = addF ⟨r1, r2⟩ ⟨x7, x8⟩ := by rw [hst]; simp [useStep, overB, e3]
          clear e2 e3 hst hf
          cases ha : addF ⟨r1, r2⟩ ⟨x7, x8⟩ with
          | none =>
            have H := Lib.hid (show usedS l x5 = big by unfold usedS; rw [htd, List.foldl_append, hst', ha, use_none]; rfl)
            have HA := Lib.hid ha
            clear hst' htd ha
            go_wp2_with (first | (refine wpList_load_at rfl 55 _ rfl STAlloc b (off + k * 11) rfl #[.int .i64 x0, .int .i64 x1, .int .i64 x2, .int .i64 x3, .int .i64 x4, .int .i64 x5, .int .i64 x6, .int .i64 x7, .int .i64 x8, .bool x9, .int .i64 x10] (by exact hce) rfl ?_) | (go_at_call 17; refine (over_any _ x10 _ rfl rfl).mono ?_; rintro e w2 ⟨rfl, hx2⟩; rw [HO.out]; have hx02 : Ext Nothing wr w2 := hxB.trans hx2 (fun _ _ e => e); have bA2 := (Blk.new wr 55 #[.int .i64 x0, .int .i64 x1, .int .i64 x2, .int .i64 x3, .int .i64 x4, .int .i64 x5, .int .i64 x6, .int .i64 x7, .int .i64 x8, .bool x9, .int .i64 x10]).ext hx2 (fun e => e); have a7 : w2.cell? ⟨wr.heap.size, 7, none⟩ = some (.int .i64 x7) := bA2.cell 7; have a8 : w2.cell? ⟨wr.heap.size, 8, none⟩ = some (.int .i64 x8) := bA2.cell 8; have hS2 := hS.ext hx02 (fun e => e); have c0 : w2.cell? ⟨w.heap.size + 1 + 1, 0, none⟩ = some (.int .i64 r1) := hS2.cell 0; have c1 : w2.cell? ⟨w.heap.size + 1 + 1, 1, none⟩ = some (.int .i64 r2) := hS2.cell 1) | (go_at_call 33; refine (add_lit _ _ _ _ _).mono ?_; rintro e w3 ⟨rfl, hx3⟩; rw [HA.out]; simp only [optR, Option.getD_none, Option.isSome_none]; have hS3 := hS2.ext hx3 (fun e => e); have hR3 := (hR.ext hx02 (fun e => e)).ext hx3 (fun e => e); have d0 : w3.cell? ⟨w.heap.size + 1 + 1, 0, none⟩ = some (.int .i64 r1) := hS3.cell 0; have d1 : w3.cell? ⟨w.heap.size + 1 + 1, 1, none⟩ = some (.int .i64 r2) := hS3.cell 1; have f0 : w3.frozen? ⟨w.heap.size + 1 + 1, 0, none⟩ = false := hS3.frozen 0; have f1 : w3.frozen? ⟨w.heap.size + 1 + 1, 1, none⟩ = false := hS3.frozen 1; have g0 : w3.cell? ⟨w.heap.size + 1, 0, none⟩ = some (.int .i64 0) := hR3.cell 0; have g1 : w3.cell? ⟨w.heap.size + 1, 1, none⟩ = some (.int .i64 0) := hR3.cell 1; have h0 : w3.frozen? ⟨w.heap.size + 1, 0, none⟩ = false := hR3.frozen 0; have h1 : w3.frozen? ⟨w.heap.size + 1, 1, none⟩ = false := hR3.frozen 1))
            refine bodyPost_ret (results_cell rfl STRes (g := w.heap.size + 1) rfl (((hR3.ext (Ext.set1 _ _ _ _) (by omega)).ext (Ext.set1 _ _ _ _) (by omega)) |>.set_ 0 _ |>.set_ 1 _) rfl) rfl ?_
            rw [H.out]
            refine ⟨rfl, ?_⟩
            have h3 := ((hx.trans hxB (fun _ _ e => e)).trans hx2 (fun _ _ e => e)).trans hx3 (fun _ _ e => e)
            (repeat' (first | (with_reducible assumption) | (with_reducible exact Ext.refl _ _) | (with_reducible refine Ext.alloc ?_ _) | (with_reducible refine Ext.drew ?_) | (with_reducible refine Ext.drewN ?_ _) | (with_reducible refine Ext.setCell ?_ (.inl (by simp only [World.size_alloc, World.size_setCell, World.size_drew] <;> omega)) _) | (with_reducible refine Ext.trans ?_ (by assumption) (fun _ _ e => e))))
          | some r =>
            obtain ⟨r3, r4⟩ := r
            have H := Lib.hid (show (l.take (k + 1)).foldl (useStep x5) (some ⟨0, 0⟩) = some ⟨r3, r4⟩ by rw [hst', ha])
            have HA := Lib.hid ha
            clear hst' htd ha
            go_wp2_with (first | (refine wpList_load_at rfl 55 _ rfl STAlloc b (off + k * 11) rfl #[.int .i64 x0, .int .i64 x1, .int .i64 x2, .int .i64 x3, .int .i64 x4, .int .i64 x5, .int .i64 x6, .int .i64 x7, .int .i64 x8, .bool x9, .int .i64 x10] (by exact hce) rfl ?_) | (go_at_call 17; refine (over_any _ x10 _ rfl rfl).mono ?_; rintro e w2 ⟨rfl, hx2⟩; rw [HO.out]; have hx02 : Ext Nothing wr w2 := hxB.trans hx2 (fun _ _ e => e); have bA2 := (Blk.new wr 55 #[.int .i64 x0, .int .i64 x1, .int .i64 x2, .int .i64 x3, .int .i64 x4, .int .i64 x5, .int .i64 x6, .int .i64 x7, .int .i64 x8, .bool x9, .int .i64 x10]).ext hx2 (fun e => e); have a7 : w2.cell? ⟨wr.heap.size, 7, none⟩ = some (.int .i64 x7) := bA2.cell 7; have a8 : w2.cell? ⟨wr.heap.size, 8, none⟩ = some (.int .i64 x8) := bA2.cell 8; have hS2 := hS.ext hx02 (fun e => e); have c0 : w2.cell? ⟨w.heap.size + 1 + 1, 0, none⟩ = some (.int .i64 r1) := hS2.cell 0; have c1 : w2.cell? ⟨w.heap.size + 1 + 1, 1, none⟩ = some (.int .i64 r2) := hS2.cell 1) | (go_at_call 33; refine (add_lit _ _ _ _ _).mono ?_; rintro e w3 ⟨rfl, hx3⟩; rw [HA.out]; simp only [optR, Option.getD_some, Option.isSome_some]; have hS3 := hS2.ext hx3 (fun e => e); have hR3 := (hR.ext hx02 (fun e => e)).ext hx3 (fun e => e); have d0 : w3.cell? ⟨w.heap.size + 1 + 1, 0, none⟩ = some (.int .i64 r1) := hS3.cell 0; have d1 : w3.cell? ⟨w.heap.size + 1 + 1, 1, none⟩ = some (.int .i64 r2) := hS3.cell 1; have f0 : w3.frozen? ⟨w.heap.size + 1 + 1, 0, none⟩ = false := hS3.frozen 0; have f1 : w3.frozen? ⟨w.heap.size + 1 + 1, 1, none⟩ = false := hS3.frozen 1; have g0 : w3.cell? ⟨w.heap.size + 1, 0, none⟩ = some (.int .i64 0) := hR3.cell 0; have g1 : w3.cell? ⟨w.heap.size + 1, 1, none⟩ = some (.int .i64 0) := hR3.cell 1; have h0 : w3.frozen? ⟨w.heap.size + 1, 0, none⟩ = false := hR3.frozen 0; have h1 : w3.frozen? ⟨w.heap.size + 1, 1, none⟩ = false := hR3.frozen 1))
            go_roundw
            case rel =>
              have h3 := ((hx.trans hxB (fun _ _ e => e)).trans hx2 (fun _ _ e => e)).trans hx3 (fun _ _ e => e)
              exact ⟨k + 1, by omega, by go_num, r3, r4, H.out, (hR3.ext (Ext.set1 _ _ _ _) (by omega)).ext (Ext.set1 _ _ _ _) (by omega), (hS3.set_ 0 _).set_ 1 _, by (repeat' (first | (with_reducible assumption) | (with_reducible exact Ext.refl _ _) | (with_reducible refine Ext.alloc ?_ _) | (with_reducible refine Ext.drew ?_) | (with_reducible refine Ext.drewN ?_ _) | (with_reducible refine Ext.setCell ?_ (.inl (by simp only [World.size_alloc, World.size_setCell, World.size_drew] <;> omega)) _) | (with_reducible refine Ext.trans ?_ (by assumption) (fun _ _ e => e))))⟩
            case measure => simp [intOf]; omega
      · have H := Lib.hid (show (l.take (k + 1)).foldl (useStep node) (some ⟨0, 0⟩) = some ⟨r1, r2⟩ by rw [hst]; simp [useStep, e1])
        have e1a : (x5 == node) = false := by simpa using e1
        clear hst hf htd
        go_wp2_with (refine wpList_load_at rfl 55 _ rfl STAlloc b (off + k * 11) rfl #[.int .i64 x0, .int .i64 x1, .int .i64 x2, .int .i64 x3, .int .i64 x4, .int .i64 x5, .int .i64 x6, .int .i64 x7, .int .i64 x8, .bool x9, .int .i64 x10] (by exact hce) rfl ?_)
        go_roundw
        case rel => exact ⟨k + 1, by omega, by go_num, r1, r2, H.out, hRB, hSB, hx.trans hxB (fun _ _ e => e)⟩
        case measure => simp [intOf]; omega
    · have hall := foldl_all (useStep node) (some ⟨0, 0⟩) l k (by have := hlen.out; omega)
      rw [hall] at hf
      have H := Lib.hid (show usedS l node = ⟨r1, r2⟩ by unfold usedS; rw [hf]; rfl)
      clear hf hall
      have c0 : wr.cell? ⟨w.heap.size + 1 + 1, 0, none⟩ = some (.int .i64 r1) := hS.cell 0
      have c1 : wr.cell? ⟨w.heap.size + 1 + 1, 1, none⟩ = some (.int .i64 r2) := hS.cell 1
      have d0 : wr.cell? ⟨w.heap.size + 1, 0, none⟩ = some (.int .i64 0) := hR.cell 0
      have d1 : wr.cell? ⟨w.heap.size + 1, 1, none⟩ = some (.int .i64 0) := hR.cell 1
      have f0 : wr.frozen? ⟨w.heap.size + 1, 0, none⟩ = false := hR.frozen 0
      have f1 : wr.frozen? ⟨w.heap.size + 1, 1, none⟩ = false := hR.frozen 1
      go_wp2
      refine bodyPost_ret (results_cell rfl STRes (g := w.heap.size + 1) rfl ((hR.set_ 0 _).set_ 1 _) rfl) rfl ?_
      rw [H.out]
      exact ⟨rfl, by (repeat' (first | (with_reducible assumption) | (with_reducible exact Ext.refl _ _) | (with_reducible refine Ext.alloc ?_ _) | (with_reducible refine Ext.drew ?_) | (with_reducible refine Ext.drewN ?_ _) | (with_reducible refine Ext.setCell ?_ (.inl (by simp only [World.size_alloc, World.size_setCell, World.size_drew] <;> omega)) _) | (with_reducible refine Ext.trans ?_ (by assumption) (fun _ _ e => e))))⟩
end Go.Proofs.YtfmkoemogicdkaaGreat
