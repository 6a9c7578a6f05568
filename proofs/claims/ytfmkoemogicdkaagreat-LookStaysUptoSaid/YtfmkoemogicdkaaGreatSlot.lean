/- package store: Slot. -/
import Derived.Test.YtfmkoemogicdkaaGreatSpec2
namespace Go.Proofs.YtfmkoemogicdkaaGreat
set_option linter.unusedVariables false
open Go.RowKit

def slotB (j g i : Int) (a : AllocD) : Bool := a.job == j && a.group == g && a.index == i && !overB a
theorem isSlot (x : AllocD) (b1 b2 b3 : Nat) (j g i : Int) (w : World) (h1 : Blk w b1 3 #[.int .i64 j]) (h2 : Blk w b2 3 #[.int .i64 g]) (h3 : Blk w b3 3 #[.int .i64 i]) :
    Calls Tryz.prog 66 #[.agg (AllocD.cells x).toArray, .pointer (some ⟨b1, 0, none⟩), .pointer (some ⟨b2, 0, none⟩), .pointer (some ⟨b3, 0, none⟩)] w fun e w' => e = .returned (.bool (slotB j g i x)) ∧ Ext Nothing w w' := by
  obtain ⟨x0, x1, x2, x3, x4, x5, x6, ⟨x7, x8⟩, x9, x10⟩ := x
  have hx0 : Ext Nothing w (w.alloc (.cells #[.int .i64 x0, .int .i64 x1, .int .i64 x2, .int .i64 x3, .int .i64 x4, .int .i64 x5, .int .i64 x6, .int .i64 x7, .int .i64 x8, .bool x9, .int .i64 x10] 55)) := by (repeat' (first | (with_reducible assumption) | (with_reducible exact Ext.refl _ _) | (with_reducible refine Ext.alloc ?_ _) | (with_reducible refine Ext.drew ?_) | (with_reducible refine Ext.drewN ?_ _) | (with_reducible refine Ext.setCell ?_ (.inl (by simp only [World.size_alloc, World.size_setCell, World.size_drew] <;> omega)) _) | (with_reducible refine Ext.trans ?_ (by assumption) (fun _ _ e => e))))
  have q1 : (w.alloc (.cells #[.int .i64 x0, .int .i64 x1, .int .i64 x2, .int .i64 x3, .int .i64 x4, .int .i64 x5, .int .i64 x6, .int .i64 x7, .int .i64 x8, .bool x9, .int .i64 x10] 55)).cell? ⟨b1, 0, none⟩ = some (.int .i64 j) := hx0.cell (h1.cell 0) (fun e => e)
  have q2 : (w.alloc (.cells #[.int .i64 x0, .int .i64 x1, .int .i64 x2, .int .i64 x3, .int .i64 x4, .int .i64 x5, .int .i64 x6, .int .i64 x7, .int .i64 x8, .bool x9, .int .i64 x10] 55)).cell? ⟨b2, 0, none⟩ = some (.int .i64 g) := hx0.cell (h2.cell 0) (fun e => e)
  have q3 : (w.alloc (.cells #[.int .i64 x0, .int .i64 x1, .int .i64 x2, .int .i64 x3, .int .i64 x4, .int .i64 x5, .int .i64 x6, .int .i64 x7, .int .i64 x8, .bool x9, .int .i64 x10] 55)).cell? ⟨b3, 0, none⟩ = some (.int .i64 i) := hx0.cell (h3.cell 0) (fun e => e)
  simp only [AllocD.cells]
  clear h1 h2 h3
  by_cases e1 : x1 = j
  · subst e1
    by_cases e2 : x3 = g
    · subst e2
      by_cases e3 : x4 = i
      · subst e3
        have e : slotB x1 x3 x4 ⟨x0, x1, x2, x3, x4, x5, x6, ⟨x7, x8⟩, x9, x10⟩ = !(decide (3 ≤ x10)) := by simp [slotB, overB]
        have H := Lib.hid e
        clear e
        go_enter Tryz.func66, Tryz.ntmps66
        go_wp2_with (go_at_call 17; refine (over_any _ x10 _ rfl rfl).mono ?_; rintro e wn ⟨rfl, hn⟩)
        go_ret
        exact ⟨by rw [H.out]; rfl, by (repeat' (first | (with_reducible assumption) | (with_reducible exact Ext.refl _ _) | (with_reducible refine Ext.alloc ?_ _) | (with_reducible refine Ext.drew ?_) | (with_reducible refine Ext.drewN ?_ _) | (with_reducible refine Ext.setCell ?_ (.inl (by simp only [World.size_alloc, World.size_setCell, World.size_drew] <;> omega)) _) | (with_reducible refine Ext.trans ?_ (by assumption) (fun _ _ e => e))))⟩
      · have e : slotB x1 x3 i ⟨x0, x1, x2, x3, x4, x5, x6, ⟨x7, x8⟩, x9, x10⟩ = false := by simp [slotB, e3]
        have H := Lib.hid e
        have h3 : (x4 == i) = false := by simpa using e3
        clear e
        go_enter Tryz.func66, Tryz.ntmps66
        go_wp2
        go_ret
        exact ⟨by rw [H.out]; rfl, by (repeat' (first | (with_reducible assumption) | (with_reducible exact Ext.refl _ _) | (with_reducible refine Ext.alloc ?_ _) | (with_reducible refine Ext.drew ?_) | (with_reducible refine Ext.drewN ?_ _) | (with_reducible refine Ext.setCell ?_ (.inl (by simp only [World.size_alloc, World.size_setCell, World.size_drew] <;> omega)) _) | (with_reducible refine Ext.trans ?_ (by assumption) (fun _ _ e => e))))⟩
    · have e : slotB x1 g i ⟨x0, x1, x2, x3, x4, x5, x6, ⟨x7, x8⟩, x9, x10⟩ = false := by simp [slotB, e2]
      have H := Lib.hid e
      have h3 : (x3 == g) = false := by simpa using e2
      clear e
      go_enter Tryz.func66, Tryz.ntmps66
      go_wp2
      go_ret
      exact ⟨by rw [H.out]; rfl, by (repeat' (first | (with_reducible assumption) | (with_reducible exact Ext.refl _ _) | (with_reducible refine Ext.alloc ?_ _) | (with_reducible refine Ext.drew ?_) | (with_reducible refine Ext.drewN ?_ _) | (with_reducible refine Ext.setCell ?_ (.inl (by simp only [World.size_alloc, World.size_setCell, World.size_drew] <;> omega)) _) | (with_reducible refine Ext.trans ?_ (by assumption) (fun _ _ e => e))))⟩
  · have e : slotB j g i ⟨x0, x1, x2, x3, x4, x5, x6, ⟨x7, x8⟩, x9, x10⟩ = false := by simp [slotB, e1]
    have H := Lib.hid e
    have h3 : (x1 == j) = false := by simpa using e1
    clear e
    go_enter Tryz.func66, Tryz.ntmps66
    go_wp2
    go_ret
    exact ⟨by rw [H.out]; rfl, by (repeat' (first | (with_reducible assumption) | (with_reducible exact Ext.refl _ _) | (with_reducible refine Ext.alloc ?_ _) | (with_reducible refine Ext.drew ?_) | (with_reducible refine Ext.drewN ?_ _) | (with_reducible refine Ext.setCell ?_ (.inl (by simp only [World.size_alloc, World.size_setCell, World.size_drew] <;> omega)) _) | (with_reducible refine Ext.trans ?_ (by assumption) (fun _ _ e => e))))⟩
set_option maxHeartbeats 1000000 in
theorem atSlot (A : Option Addr) (n cap : Nat) (l : List AllocD) (b1 b2 b3 : Nat) (j g i : Int) (w : World) (hl : Sl w 11 A n (l.map AllocD.cells)) (h1 : Blk w b1 3 #[.int .i64 j]) (h2 : Blk w b2 3 #[.int .i64 g]) (h3 : Blk w b3 3 #[.int .i64 i]) (hn : n ≤ 67108864) :
    Calls Tryz.prog 65 #[.slice A n cap, .func (.func 66) #[] #[.pointer (some ⟨b1, 0, none⟩), .pointer (some ⟨b2, 0, none⟩), .pointer (some ⟨b3, 0, none⟩)]] w fun e w' => e = .returned (.int .i64 (idxI (slotB j g i) l)) ∧ Ext Nothing w w' := by
  have hlen := Lib.hid hl.len
  go_enter Tryz.func65, Tryz.ntmps65
  go_wp2
  go_loopw [8] (fun c wr => ∃ k : Nat, k ≤ n ∧ c = .int .i64 k ∧ (∀ i' < k, ∀ y, l[i']? = some y → slotB j g i y = false) ∧ Ext Nothing w wr) (fun i _ => n - (intOf i).toNat)
  case atStart => exact ⟨0, Nat.zero_le _, rfl, fun j hj => absurd hj (by omega), Ext.refl _ _⟩
  case round =>
    obtain ⟨k, hk, rfl, hno, hx⟩ := hrel
    by_cases hlt : k < n
    · obtain ⟨hjn, b, off, rfl, hce⟩ := hl.get hx hlt
      have hy : l[k]? = some l[k] := List.getElem?_eq_getElem hjn
      generalize l[k] = x at hce hy
      cases hp : slotB j g i x with
      | true =>
        have hr := Lib.hid (idx_hit (p := slotB j g i) hno hy hp)
        have hp' := Lib.hid hp
        clear hno hy hp
        go_wp2_with (first | (refine wpList_load_at rfl 55 _ rfl STAlloc b (off + k * 11) rfl (AllocD.cells x).toArray (by exact hce) rfl ?_) | (go_at_call 66; refine (isSlot x b1 b2 b3 j g i _ (h1.ext hx (fun e => e)) (h2.ext hx (fun e => e)) (h3.ext hx (fun e => e))).mono ?_; rintro e w' ⟨rfl, hx1⟩; rw [hp'.out]))
        go_ret
        exact ⟨by rw [hr.out]; rfl, hx.trans hx1 (fun _ _ e => e)⟩
      | false =>
        have hno' : ∀ i' < k + 1, ∀ y, l[i']? = some y → slotB j g i y = false := fun i hi y hy' => by
          by_cases h : i = k
          · subst h; rw [hy] at hy'; cases hy'; exact hp
          · exact hno i (by omega) y hy'
        have HN := Lib.hid hno'
        have hp' := Lib.hid hp
        clear hno hno' hy hp
        go_wp2_with (first | (refine wpList_load_at rfl 55 _ rfl STAlloc b (off + k * 11) rfl (AllocD.cells x).toArray (by exact hce) rfl ?_) | (go_at_call 66; refine (isSlot x b1 b2 b3 j g i _ (h1.ext hx (fun e => e)) (h2.ext hx (fun e => e)) (h3.ext hx (fun e => e))).mono ?_; rintro e w' ⟨rfl, hx1⟩; rw [hp'.out]))
        go_roundw
        case rel => exact ⟨k + 1, by omega, by go_num, HN.out, hx.trans hx1 (fun _ _ e => e)⟩
        case measure => simp [intOf]; omega
    · have hr := Lib.hid (idx_none (p := slotB j g i) (l := l) (fun i hi y hy => hno i (by have := hlen.out; omega) y hy))
      clear hno
      go_wp2
      go_ret
      exact ⟨by rw [hr.out]; rfl, hx⟩
theorem findSlot (A : Option Addr) (n cap : Nat) (l : List AllocD) (j g i : Int) (w : World) (hl : Sl w 11 A n (l.map AllocD.cells)) (hn : n ≤ 67108864) (s0 s1 s2 s3 s4 s6 s7 s8 : Value) :
    Calls Tryz.prog 52 #[.agg #[s0, s1, s2, s3, s4, .slice A n cap, s6, s7, s8], .int .i64 j, .int .i64 g, .int .i64 i] w fun e w' => e = .returned (.int .i64 (idxI (slotB j g i) l)) ∧ Ext Nothing w w' := by
  have hx0 : Ext Nothing w ((((w.alloc (.cells #[s0, s1, s2, s3, s4, .slice A n cap, s6, s7, s8] 29)).alloc (.cells #[.int .i64 j] 3)).alloc (.cells #[.int .i64 g] 3)).alloc (.cells #[.int .i64 i] 3)) := by (repeat' (first | (with_reducible assumption) | (with_reducible exact Ext.refl _ _) | (with_reducible refine Ext.alloc ?_ _) | (with_reducible refine Ext.drew ?_) | (with_reducible refine Ext.drewN ?_ _) | (with_reducible refine Ext.setCell ?_ (.inl (by simp only [World.size_alloc, World.size_setCell, World.size_drew] <;> omega)) _) | (with_reducible refine Ext.trans ?_ (by assumption) (fun _ _ e => e))))
  have h1 : Blk ((((w.alloc (.cells #[s0, s1, s2, s3, s4, .slice A n cap, s6, s7, s8] 29)).alloc (.cells #[.int .i64 j] 3)).alloc (.cells #[.int .i64 g] 3)).alloc (.cells #[.int .i64 i] 3)) (w.heap.size + 1) 3 #[.int .i64 j] := (Blk.new' (w.alloc (.cells #[s0, s1, s2, s3, s4, .slice A n cap, s6, s7, s8] 29)) _ _ (by simp)).ext (S := Nothing) (by (repeat' (first | (with_reducible assumption) | (with_reducible exact Ext.refl _ _) | (with_reducible refine Ext.alloc ?_ _) | (with_reducible refine Ext.drew ?_) | (with_reducible refine Ext.drewN ?_ _) | (with_reducible refine Ext.setCell ?_ (.inl (by simp only [World.size_alloc, World.size_setCell, World.size_drew] <;> omega)) _) | (with_reducible refine Ext.trans ?_ (by assumption) (fun _ _ e => e))))) (fun e => e)
  have h2 : Blk ((((w.alloc (.cells #[s0, s1, s2, s3, s4, .slice A n cap, s6, s7, s8] 29)).alloc (.cells #[.int .i64 j] 3)).alloc (.cells #[.int .i64 g] 3)).alloc (.cells #[.int .i64 i] 3)) (w.heap.size + 1 + 1) 3 #[.int .i64 g] := (Blk.new' ((w.alloc (.cells #[s0, s1, s2, s3, s4, .slice A n cap, s6, s7, s8] 29)).alloc (.cells #[.int .i64 j] 3)) _ _ (by simp)).ext (S := Nothing) (by (repeat' (first | (with_reducible assumption) | (with_reducible exact Ext.refl _ _) | (with_reducible refine Ext.alloc ?_ _) | (with_reducible refine Ext.drew ?_) | (with_reducible refine Ext.drewN ?_ _) | (with_reducible refine Ext.setCell ?_ (.inl (by simp only [World.size_alloc, World.size_setCell, World.size_drew] <;> omega)) _) | (with_reducible refine Ext.trans ?_ (by assumption) (fun _ _ e => e))))) (fun e => e)
  have h3 : Blk ((((w.alloc (.cells #[s0, s1, s2, s3, s4, .slice A n cap, s6, s7, s8] 29)).alloc (.cells #[.int .i64 j] 3)).alloc (.cells #[.int .i64 g] 3)).alloc (.cells #[.int .i64 i] 3)) (w.heap.size + 1 + 1 + 1) 3 #[.int .i64 i] := Blk.new' _ _ _ (by simp)
  go_enter Tryz.func52, Tryz.ntmps52
  go_wp2_with (go_at_call 65; refine (atSlot A n cap l _ _ _ j g i _ (hl.ext0 hx0) h1 h2 h3 hn).mono ?_; rintro e w' ⟨rfl, hx⟩)
  go_ret
  exact ⟨rfl, hx0.trans hx (fun _ _ e => e)⟩
end Go.Proofs.YtfmkoemogicdkaaGreat
