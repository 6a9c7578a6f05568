/- caps: may capacities be added? -/
import Derived.Test.YtfmkoemogicdkaaGreatSlot
namespace Go.Proofs.YtfmkoemogicdkaaGreat
set_option linter.unusedVariables false
open Go.RowKit

def capB (n : NodD) : Bool := decide (n.cap.cpu > 2305843009213693952) || decide (n.cap.mem > 2305843009213693952)
def capsB (l : List NodD) : Bool := l.all fun n => !capB n
theorem caps_no {l : List NodD} {k : Nat} (h : k < l.length) (hb : capB l[k] = true) : capsB l = false := by
  rw [capsB, List.all_eq_false]
  exact ⟨l[k], List.getElem_mem h, by simp [hb]⟩
theorem caps_yes {l : List NodD} (h : ∀ j (hj : j < l.length), capB l[j] = false) : capsB l = true := by
  rw [capsB, List.all_eq_true]
  intro x hx
  obtain ⟨i, hi, rfl⟩ := List.mem_iff_getElem.1 hx
  simp [h i hi]
theorem caps_any (A : Option Addr) (n cap : Nat) (l : List NodD) (w : World) (hl : Sl w 8 A n (l.map NodD.cells)) (hn : n ≤ 67108864) (s0 s1 s2 s3 s5 s6 s7 s8 : Value) :
    Calls Tryz.prog 4 #[.agg #[s0, s1, s2, s3, .slice A n cap, s5, s6, s7, s8]] w fun e w' => e = .returned (.bool (capsB l)) ∧ Ext Nothing w w' := by
  have hlen := Lib.hid hl.len
  have hx0 : Ext Nothing w (w.alloc (.cells #[s0, s1, s2, s3, .slice A n cap, s5, s6, s7, s8] 29)) := by (repeat' (first | (with_reducible assumption) | (with_reducible exact Ext.refl _ _) | (with_reducible refine Ext.alloc ?_ _) | (with_reducible refine Ext.drew ?_) | (with_reducible refine Ext.drewN ?_ _) | (with_reducible refine Ext.setCell ?_ (.inl (by simp only [World.size_alloc, World.size_setCell, World.size_drew] <;> omega)) _) | (with_reducible refine Ext.trans ?_ (by assumption) (fun _ _ e => e))))
  have hB0 : Blk (w.alloc (.cells #[s0, s1, s2, s3, .slice A n cap, s5, s6, s7, s8] 29)) w.heap.size 29 #[s0, s1, s2, s3, .slice A n cap, s5, s6, s7, s8] := Blk.new _ _ _
  go_enter Tryz.func4, Tryz.ntmps4
  go_wp2
  go_loopw [3] (fun c wr => ∃ k : Nat, k ≤ n ∧ c = .int .i64 k ∧ (∀ j (hj : j < l.length), j < k → capB l[j] = false) ∧ Ext Nothing w wr ∧ Blk wr w.heap.size 29 #[s0, s1, s2, s3, .slice A n cap, s5, s6, s7, s8]) (fun i _ => n - (intOf i).toNat)
  case atStart => exact ⟨0, Nat.zero_le _, rfl, fun _ _ h => absurd h (by omega), hx0, hB0⟩
  case round =>
    obtain ⟨k, hk, rfl, hno, hx, hB⟩ := hrel
    have c4 : wr.cell? ⟨w.heap.size, 4, none⟩ = some (.slice A n cap) := hB.cell 4
    by_cases hlt : k < n
    · obtain ⟨hjn, b, off, hAe, hce⟩ := hl.get hx hlt
      rw [hAe] at c4
      have HA := Lib.hid hAe
      clear hAe
      have hk0 : (0 : Int) ≤ (k : Int) := by omega
      have hk1 : (k : Int) < n := by omega
      have hxB : Ext Nothing wr (wr.alloc (.cells #[.int .i64 l[k].cap.cpu, .int .i64 l[k].cap.mem] 35)) := by (repeat' (first | (with_reducible assumption) | (with_reducible exact Ext.refl _ _) | (with_reducible refine Ext.alloc ?_ _) | (with_reducible refine Ext.drew ?_) | (with_reducible refine Ext.drewN ?_ _) | (with_reducible refine Ext.setCell ?_ (.inl (by simp only [World.size_alloc, World.size_setCell, World.size_drew] <;> omega)) _) | (with_reducible refine Ext.trans ?_ (by assumption) (fun _ _ e => e))))
      have hBB := Blk.ext (S := Nothing) hB hxB (fun e => e)
      have hyes : capB l[k] = true → capsB l = false := caps_no hjn
      have hgo : capB l[k] = false → ∀ j (hj : j < l.length), j < k + 1 → capB l[j] = false := fun h j hj hjk => by
        rcases Nat.lt_or_ge j k with h1 | h1
        · exact hno j hj h1
        · obtain rfl : j = k := by omega
          exact h
      generalize l[k] = x at hce hxB hBB hyes hgo
      have a1 : wr.cell? ⟨b, off + k * 8 + 1, none⟩ = some (.int .i64 x.cap.cpu) := hce 1 _ rfl
      have a2 : wr.cell? ⟨b, off + k * 8 + 1 + 1, none⟩ = some (.int .i64 x.cap.mem) := hce 2 _ rfl
      cases h1 : decide (x.cap.cpu > 2305843009213693952) with
      | true =>
        have hv := Lib.hid (hyes (by rw [capB, h1]; rfl))
        have h1' := of_decide_eq_true h1
        go_wp2
        go_ret
        exact And.intro (by rw [hv.out]; rfl) (hx.trans hxB (fun _ _ e => e))
      | false =>
        have h1' := of_decide_eq_false h1
        cases h2 : decide (x.cap.mem > 2305843009213693952) with
        | true =>
          have hv := Lib.hid (hyes (by rw [capB, h2, Bool.or_true]))
          have h2' := of_decide_eq_true h2
          go_wp2
          go_ret
          exact And.intro (by rw [hv.out]; rfl) (hx.trans hxB (fun _ _ e => e))
        | false =>
          have hv := hgo (by rw [capB, h1, h2]; rfl)
          have h2' := of_decide_eq_false h2
          go_wp2
          go_roundw
          case rel => exact ⟨k + 1, by omega, by go_num, hv, hx.trans hxB (fun _ _ e => e), hBB⟩
          case measure => simp [intOf]; omega
    · have hv := Lib.hid (caps_yes (fun j hj => hno j hj (by have := hlen.out; omega)))
      go_wp2
      go_ret
      exact And.intro (by rw [hv.out]; rfl) hx
end Go.Proofs.YtfmkoemogicdkaaGreat
