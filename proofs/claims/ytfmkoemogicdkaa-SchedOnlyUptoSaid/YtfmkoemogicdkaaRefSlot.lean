/- The reference's Slot: the same place. -/
import Derived.Test.YtfmkoemogicdkaaSlot
namespace Go.Proofs.Ytfmkoemogicdkaa
set_option linter.unusedVariables false
open Go.RowKit

set_option maxHeartbeats 2000000 in
theorem refSlot (A : Option Addr) (n cap : Nat) (l : List AllocD) (j g i : Int) (w : World) (hl : Sl w 11 A n (l.map AllocD.cells)) (hn : n ≤ 67108864) (s0 s1 s2 s3 s4 s6 s7 s8 : Value) :
    Calls Try.prog 10 #[.agg #[s0, s1, s2, s3, s4, .slice A n cap, s6, s7, s8], .int .i64 j, .int .i64 g, .int .i64 i] w fun e w' => e = .returned (.int .i64 (idxI (slotB j g i) l)) ∧ Ext Nothing w w' := by
  have hlen := Lib.hid hl.len
  have hx0 : Ext Nothing w (w.alloc (.cells #[s0, s1, s2, s3, s4, .slice A n cap, s6, s7, s8] 29)) := by (repeat' (first | (with_reducible assumption) | (with_reducible exact Ext.refl _ _) | (with_reducible refine Ext.alloc ?_ _) | (with_reducible refine Ext.drew ?_) | (with_reducible refine Ext.drewN ?_ _) | (with_reducible refine Ext.setCell ?_ (.inl (by simp only [World.size_alloc, World.size_setCell, World.size_drew] <;> omega)) _) | (with_reducible refine Ext.trans ?_ (by assumption) (fun _ _ e => e))))
  have hB0 : Blk (w.alloc (.cells #[s0, s1, s2, s3, s4, .slice A n cap, s6, s7, s8] 29)) w.heap.size 29 #[s0, s1, s2, s3, s4, .slice A n cap, s6, s7, s8] := Blk.new _ _ _
  go_enter Try.func10, Try.ntmps10
  go_wp2
  go_loopw [9] (fun c wr => ∃ k : Nat, k ≤ n ∧ c = .int .i64 k ∧ (∀ i' < k, ∀ y, l[i']? = some y → slotB j g i y = false) ∧ Ext Nothing w wr ∧ Blk wr w.heap.size 29 #[s0, s1, s2, s3, s4, .slice A n cap, s6, s7, s8]) (fun i _ => n - (intOf i).toNat)
  case atStart => exact ⟨0, Nat.zero_le _, rfl, fun j hj => absurd hj (by omega), hx0, hB0⟩
  case round =>
    obtain ⟨k, hk, rfl, hno, hx, hB⟩ := hrel
    have c5 : wr.cell? ⟨w.heap.size, 5, none⟩ = some (.slice A n cap) := hB.cell 5
    by_cases hlt : k < n
    · obtain ⟨hjn, b, off, hAe, hce⟩ := hl.get hx hlt
      rw [hAe] at c5
      have HA := Lib.hid hAe
      clear hAe
      have hk0 : (0 : Int) ≤ (k : Int) := by omega
      have hk1 : (k : Int) < n := by omega
      have hy : l[k]? = some l[k] := List.getElem?_eq_getElem hjn
      generalize l[k] = x at hce hy
      obtain ⟨x0, x1, x2, x3, x4, x5, x6, ⟨x7, x8⟩, x9, x10⟩ := x
      simp only [AllocD.cells] at hce
      have hxB : Ext Nothing wr (wr.alloc (.cells #[.int .i64 x0, .int .i64 x1, .int .i64 x2, .int .i64 x3, .int .i64 x4, .int .i64 x5, .int .i64 x6, .int .i64 x7, .int .i64 x8, .bool x9, .int .i64 x10] 40)) := by (repeat' (first | (with_reducible assumption) | (with_reducible exact Ext.refl _ _) | (with_reducible refine Ext.alloc ?_ _) | (with_reducible refine Ext.drew ?_) | (with_reducible refine Ext.drewN ?_ _) | (with_reducible refine Ext.setCell ?_ (.inl (by simp only [World.size_alloc, World.size_setCell, World.size_drew] <;> omega)) _) | (with_reducible refine Ext.trans ?_ (by assumption) (fun _ _ e => e))))
      have hBB := Blk.ext (S := Nothing) hB hxB (fun e => e)
      cases hp : slotB j g i ⟨x0, x1, x2, x3, x4, x5, x6, ⟨x7, x8⟩, x9, x10⟩ with
      | true =>
        have hr := Lib.hid (idx_hit (p := slotB j g i) hno hy hp)
        simp only [slotB, overB, Bool.and_eq_true, beq_iff_eq, Bool.not_eq_true', decide_eq_false_iff_not] at hp
        obtain ⟨⟨⟨rfl, rfl⟩, rfl⟩, h3⟩ := hp
        have h4 : decide (x10 < 3) = true := by simp; omega
        clear hno hy
        go_wp2_with (refine wpList_load_at rfl 40 _ rfl STAlloc b (off + k * 11) rfl #[.int .i64 x0, .int .i64 x1, .int .i64 x2, .int .i64 x3, .int .i64 x4, .int .i64 x5, .int .i64 x6, .int .i64 x7, .int .i64 x8, .bool x9, .int .i64 x10] (by exact hce) rfl ?_)
        go_ret
        exact ⟨by rw [hr.out]; rfl, hx.trans hxB (fun _ _ e => e)⟩
      | false =>
        have hno' : ∀ i' < k + 1, ∀ y, l[i']? = some y → slotB j g i y = false := fun i1 hi y hy' => by
          by_cases h : i1 = k
          · subst h; rw [hy] at hy'; cases hy'; exact hp
          · exact hno i1 (by omega) y hy'
        have HN := Lib.hid hno'
        have hq : x1 ≠ j ∨ (x1 = j ∧ x3 ≠ g) ∨ (x1 = j ∧ x3 = g ∧ x4 ≠ i) ∨ (x1 = j ∧ x3 = g ∧ x4 = i ∧ ¬ x10 < 3) := by
          by_cases a1 : x1 = j
          · by_cases a2 : x3 = g
            · by_cases a3 : x4 = i
              · refine .inr (.inr (.inr ⟨a1, a2, a3, fun h => ?_⟩))
                have : slotB j g i ⟨x0, x1, x2, x3, x4, x5, x6, ⟨x7, x8⟩, x9, x10⟩ = true := by simp [slotB, overB, a1, a2, a3]; omega
                rw [hp] at this; cases this
              · exact .inr (.inr (.inl ⟨a1, a2, a3⟩))
            · exact .inr (.inl ⟨a1, a2⟩)
          · exact .inl a1
        clear hno hno' hy hp
        rcases hq with h1 | ⟨h1, h2⟩ | ⟨h1, h2, h3⟩ | ⟨h1, h2, h3, h4⟩
        all_goals (
          (try (have h1' : (x1 == j) = false := by simpa using h1)); (try (have h2' : (x3 == g) = false := by simpa using h2)); (try (have h3' : (x4 == i) = false := by simpa using h3))
          (try subst h1); (try subst h2); (try subst h3)
          go_wp2_with (refine wpList_load_at rfl 40 _ rfl STAlloc b (off + k * 11) rfl #[.int .i64 x0, .int .i64 x1, .int .i64 x2, .int .i64 x3, .int .i64 x4, .int .i64 x5, .int .i64 x6, .int .i64 x7, .int .i64 x8, .bool x9, .int .i64 x10] (by exact hce) rfl ?_)
          go_roundw
          case rel => exact ⟨k + 1, by omega, by go_num, HN.out, hx.trans hxB (fun _ _ e => e), hBB⟩
          case measure => simp [intOf]; omega)
    · have hr := Lib.hid (idx_none (p := slotB j g i) (l := l) (fun i hi y hy => hno i (by have := hlen.out; omega) y hy))
      clear hno
      go_wp2
      go_ret
      exact ⟨by rw [hr.out]; rfl, hx⟩
end Go.Proofs.Ytfmkoemogicdkaa
