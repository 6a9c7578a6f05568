/- Whether a batch job's slot is done; the maker of the iterator over the slots. -/
import Derived.Test.YtfmkoemogicdkaaGreatSlots
namespace Go.Proofs.YtfmkoemogicdkaaGreat
set_option linter.unusedVariables false
open Go.RowKit

theorem STSlot : StructT Tryz.prog 86 2 := .of (by kernel_rfl)
theorem slots_ret (sv jv : Array Value) (w : World) : Calls Tryz.prog 50 #[.agg sv, .agg jv] w fun e w' =>
    e = .returned (.func (.func 63) #[] #[.pointer (some ⟨w.heap.size + 1, 0, none⟩), .pointer (some ⟨w.heap.size, 0, none⟩)]) ∧ (w.alloc (.cells sv 29)).alloc (.cells jv 43) = w' := by
  go_enter Tryz.func50, Tryz.ntmps50
  go_wp2
  go_ret
  exact ⟨rfl, rfl⟩

def done1 (j : JobD) (x : SlotD) (a : AllocD) : Bool := a.job == j.id && a.ver == j.ver && a.group == x.group && a.index == x.index && a.state == 3
set_option maxHeartbeats 1000000 in
theorem isDone (a : AllocD) (bj bx : Nat) (j : JobD) (gv : Value) (x : SlotD) (w : World) (hj : Blk w bj 43 (JobV.cells (j, gv)).toArray) (hx : Blk w bx 86 #[.int .i64 x.group, .int .i64 x.index]) :
    Calls Tryz.prog 67 #[.agg (AllocD.cells a).toArray, .pointer (some ⟨bj, 0, none⟩), .pointer (some ⟨bx, 0, none⟩)] w fun e w' => e = .returned (.bool (done1 j x a)) ∧ Ext Nothing w w' := by
  obtain ⟨x0, x1, x2, x3, x4, x5, x6, ⟨x7, x8⟩, x9, x10⟩ := a
  obtain ⟨i1, i2, i3, i4, gs, i6, i7⟩ := j
  obtain ⟨g, i⟩ := x
  have hx0 : Ext Nothing w (w.alloc (.cells #[.int .i64 x0, .int .i64 x1, .int .i64 x2, .int .i64 x3, .int .i64 x4, .int .i64 x5, .int .i64 x6, .int .i64 x7, .int .i64 x8, .bool x9, .int .i64 x10] 55)) := by (repeat' (first | (with_reducible assumption) | (with_reducible exact Ext.refl _ _) | (with_reducible refine Ext.alloc ?_ _) | (with_reducible refine Ext.drew ?_) | (with_reducible refine Ext.drewN ?_ _) | (with_reducible refine Ext.setCell ?_ (.inl (by simp only [World.size_alloc, World.size_setCell, World.size_drew] <;> omega)) _) | (with_reducible refine Ext.trans ?_ (by assumption) (fun _ _ e => e))))
  have q1 : (w.alloc (.cells #[.int .i64 x0, .int .i64 x1, .int .i64 x2, .int .i64 x3, .int .i64 x4, .int .i64 x5, .int .i64 x6, .int .i64 x7, .int .i64 x8, .bool x9, .int .i64 x10] 55)).cell? ⟨bj, 0, none⟩ = some (.int .i64 i1) := hx0.cell (hj.cell 0) (fun e => e)
  have q2 : (w.alloc (.cells #[.int .i64 x0, .int .i64 x1, .int .i64 x2, .int .i64 x3, .int .i64 x4, .int .i64 x5, .int .i64 x6, .int .i64 x7, .int .i64 x8, .bool x9, .int .i64 x10] 55)).cell? ⟨bj, 5, none⟩ = some (.int .i64 i6) := hx0.cell (hj.cell 5) (fun e => e)
  have q3 : (w.alloc (.cells #[.int .i64 x0, .int .i64 x1, .int .i64 x2, .int .i64 x3, .int .i64 x4, .int .i64 x5, .int .i64 x6, .int .i64 x7, .int .i64 x8, .bool x9, .int .i64 x10] 55)).cell? ⟨bx, 0, none⟩ = some (.int .i64 g) := hx0.cell (hx.cell 0) (fun e => e)
  have q4 : (w.alloc (.cells #[.int .i64 x0, .int .i64 x1, .int .i64 x2, .int .i64 x3, .int .i64 x4, .int .i64 x5, .int .i64 x6, .int .i64 x7, .int .i64 x8, .bool x9, .int .i64 x10] 55)).cell? ⟨bx, 1, none⟩ = some (.int .i64 i) := hx0.cell (hx.cell 1) (fun e => e)
  simp only [AllocD.cells]
  clear hj hx
  cases e1 : (x1 == i1) with
  | false =>
    have H := Lib.hid (show done1 ⟨i1, i2, i3, i4, gs, i6, i7⟩ ⟨g, i⟩ ⟨x0, x1, x2, x3, x4, x5, x6, ⟨x7, x8⟩, x9, x10⟩ = false by simp [done1, e1])
    go_enter Tryz.func67, Tryz.ntmps67
    go_wp2
    go_ret
    exact ⟨by rw [H.out]; rfl, by (repeat' (first | (with_reducible assumption) | (with_reducible exact Ext.refl _ _) | (with_reducible refine Ext.alloc ?_ _) | (with_reducible refine Ext.drew ?_) | (with_reducible refine Ext.drewN ?_ _) | (with_reducible refine Ext.setCell ?_ (.inl (by simp only [World.size_alloc, World.size_setCell, World.size_drew] <;> omega)) _) | (with_reducible refine Ext.trans ?_ (by assumption) (fun _ _ e => e))))⟩
  | true =>
    obtain rfl : x1 = i1 := by simpa using e1
    cases e2 : (x2 == i6) with
    | false =>
      have H := Lib.hid (show done1 ⟨x1, i2, i3, i4, gs, i6, i7⟩ ⟨g, i⟩ ⟨x0, x1, x2, x3, x4, x5, x6, ⟨x7, x8⟩, x9, x10⟩ = false by simp [done1, e2])
      go_enter Tryz.func67, Tryz.ntmps67
      go_wp2
      go_ret
      exact ⟨by rw [H.out]; rfl, by (repeat' (first | (with_reducible assumption) | (with_reducible exact Ext.refl _ _) | (with_reducible refine Ext.alloc ?_ _) | (with_reducible refine Ext.drew ?_) | (with_reducible refine Ext.drewN ?_ _) | (with_reducible refine Ext.setCell ?_ (.inl (by simp only [World.size_alloc, World.size_setCell, World.size_drew] <;> omega)) _) | (with_reducible refine Ext.trans ?_ (by assumption) (fun _ _ e => e))))⟩
    | true =>
      obtain rfl : x2 = i6 := by simpa using e2
      cases e3 : (x3 == g) with
      | false =>
        have H := Lib.hid (show done1 ⟨x1, i2, i3, i4, gs, x2, i7⟩ ⟨g, i⟩ ⟨x0, x1, x2, x3, x4, x5, x6, ⟨x7, x8⟩, x9, x10⟩ = false by simp [done1, e3])
        go_enter Tryz.func67, Tryz.ntmps67
        go_wp2
        go_ret
        exact ⟨by rw [H.out]; rfl, by (repeat' (first | (with_reducible assumption) | (with_reducible exact Ext.refl _ _) | (with_reducible refine Ext.alloc ?_ _) | (with_reducible refine Ext.drew ?_) | (with_reducible refine Ext.drewN ?_ _) | (with_reducible refine Ext.setCell ?_ (.inl (by simp only [World.size_alloc, World.size_setCell, World.size_drew] <;> omega)) _) | (with_reducible refine Ext.trans ?_ (by assumption) (fun _ _ e => e))))⟩
      | true =>
        obtain rfl : x3 = g := by simpa using e3
        cases e4 : (x4 == i) with
        | false =>
          have H := Lib.hid (show done1 ⟨x1, i2, i3, i4, gs, x2, i7⟩ ⟨x3, i⟩ ⟨x0, x1, x2, x3, x4, x5, x6, ⟨x7, x8⟩, x9, x10⟩ = false by simp [done1, e4])
          go_enter Tryz.func67, Tryz.ntmps67
          go_wp2
          go_ret
          exact ⟨by rw [H.out]; rfl, by (repeat' (first | (with_reducible assumption) | (with_reducible exact Ext.refl _ _) | (with_reducible refine Ext.alloc ?_ _) | (with_reducible refine Ext.drew ?_) | (with_reducible refine Ext.drewN ?_ _) | (with_reducible refine Ext.setCell ?_ (.inl (by simp only [World.size_alloc, World.size_setCell, World.size_drew] <;> omega)) _) | (with_reducible refine Ext.trans ?_ (by assumption) (fun _ _ e => e))))⟩
        | true =>
          obtain rfl : x4 = i := by simpa using e4
          have H := Lib.hid (show done1 ⟨x1, i2, i3, i4, gs, x2, i7⟩ ⟨x3, x4⟩ ⟨x0, x1, x2, x3, x4, x5, x6, ⟨x7, x8⟩, x9, x10⟩ = (x10 == 3) by simp [done1])
          clear e1 e2 e3 e4
          go_enter Tryz.func67, Tryz.ntmps67
          go_wp2
          go_ret
          exact ⟨by rw [H.out]; rfl, by (repeat' (first | (with_reducible assumption) | (with_reducible exact Ext.refl _ _) | (with_reducible refine Ext.alloc ?_ _) | (with_reducible refine Ext.drew ?_) | (with_reducible refine Ext.drewN ?_ _) | (with_reducible refine Ext.setCell ?_ (.inl (by simp only [World.size_alloc, World.size_setCell, World.size_drew] <;> omega)) _) | (with_reducible refine Ext.trans ?_ (by assumption) (fun _ _ e => e))))⟩
set_option maxHeartbeats 1000000 in
theorem indexDone (A : Option Addr) (n cap : Nat) (l : List AllocD) (bj bx : Nat) (j : JobD) (gv : Value) (x : SlotD) (w : World) (hl : Sl w 11 A n (l.map AllocD.cells)) (hj : Blk w bj 43 (JobV.cells (j, gv)).toArray) (hxx : Blk w bx 86 #[.int .i64 x.group, .int .i64 x.index]) (hn : n ≤ 67108864) :
    Calls Tryz.prog 34 #[.slice A n cap, .func (.func 67) #[] #[.pointer (some ⟨bj, 0, none⟩), .pointer (some ⟨bx, 0, none⟩)]] w fun e w' => e = .returned (.int .i64 (idxI (done1 j x) l)) ∧ Ext Nothing w w' := by
  have hlen := Lib.hid hl.len
  go_enter Tryz.func34, Tryz.ntmps34
  go_wp2
  go_loopw [8] (fun c wr => ∃ k : Nat, k ≤ n ∧ c = .int .i64 k ∧ (∀ i' < k, ∀ y, l[i']? = some y → done1 j x y = false) ∧ Ext Nothing w wr) (fun i _ => n - (intOf i).toNat)
  case atStart => exact ⟨0, Nat.zero_le _, rfl, fun j hj => absurd hj (by omega), Ext.refl _ _⟩
  case round =>
    obtain ⟨k, hk, rfl, hno, hx⟩ := hrel
    by_cases hlt : k < n
    · obtain ⟨hjn, b, off, rfl, hce⟩ := hl.get hx hlt
      have hy : l[k]? = some l[k] := List.getElem?_eq_getElem hjn
      generalize l[k] = a at hce hy
      cases hp : done1 j x a with
      | true =>
        have hr := Lib.hid (idx_hit (p := done1 j x) hno hy hp)
        have hp' := Lib.hid hp
        clear hno hy hp
        go_wp2_with (first | (refine wpList_load_at rfl 55 _ rfl STAlloc b (off + k * 11) rfl (AllocD.cells a).toArray (by exact hce) rfl ?_) | (go_at_call 67; refine (isDone a bj bx j gv x _ (hj.ext hx (fun e => e)) (hxx.ext hx (fun e => e))).mono ?_; rintro e w' ⟨rfl, hx1⟩; rw [hp'.out]))
        go_ret
        exact ⟨by rw [hr.out]; rfl, hx.trans hx1 (fun _ _ e => e)⟩
      | false =>
        have hno' : ∀ i' < k + 1, ∀ y, l[i']? = some y → done1 j x y = false := fun i hi y hy' => by
          by_cases h : i = k
          · subst h; rw [hy] at hy'; cases hy'; exact hp
          · exact hno i (by omega) y hy'
        have HN := Lib.hid hno'
        have hp' := Lib.hid hp
        clear hno hno' hy hp
        go_wp2_with (first | (refine wpList_load_at rfl 55 _ rfl STAlloc b (off + k * 11) rfl (AllocD.cells a).toArray (by exact hce) rfl ?_) | (go_at_call 67; refine (isDone a bj bx j gv x _ (hj.ext hx (fun e => e)) (hxx.ext hx (fun e => e))).mono ?_; rintro e w' ⟨rfl, hx1⟩; rw [hp'.out]))
        go_roundw
        case rel => exact ⟨k + 1, by omega, by go_num, HN.out, hx.trans hx1 (fun _ _ e => e)⟩
        case measure => simp [intOf]; omega
    · have hr := Lib.hid (idx_none (p := done1 j x) (l := l) (fun i hi y hy => hno i (by have := hlen.out; omega) y hy))
      clear hno
      go_wp2
      go_ret
      exact ⟨by rw [hr.out]; rfl, hx⟩
theorem idx_any {α : Type} (p : α → Bool) (l : List α) : decide (idxI p l ≥ 0) = l.any p := by
  rcases idx_cases p l with ⟨h, _, hno⟩ | ⟨i, y, h, hy, hp, _⟩
  · rw [h]
    have : l.any p = false := List.any_eq_false.2 (fun x hx => by simp [hno x hx])
    simp [this]
  · rw [h]
    have : l.any p = true := List.any_eq_true.2 ⟨y, List.mem_of_getElem? hy, hp⟩
    simp [this]
theorem containsDone (A : Option Addr) (n cap : Nat) (l : List AllocD) (bj bx : Nat) (j : JobD) (gv : Value) (x : SlotD) (w : World) (hl : Sl w 11 A n (l.map AllocD.cells)) (hj : Blk w bj 43 (JobV.cells (j, gv)).toArray) (hxx : Blk w bx 86 #[.int .i64 x.group, .int .i64 x.index]) (hn : n ≤ 67108864) :
    Calls Tryz.prog 18 #[.slice A n cap, .func (.func 67) #[] #[.pointer (some ⟨bj, 0, none⟩), .pointer (some ⟨bx, 0, none⟩)]] w fun e w' => e = .returned (.bool (l.any (done1 j x))) ∧ Ext Nothing w w' := by
  have H := Lib.hid (idx_any (done1 j x) l)
  go_enter Tryz.func18, Tryz.ntmps18
  go_wp2_with (go_at_call 34; refine (indexDone A n cap l bj bx j gv x _ hl hj hxx hn).mono ?_; rintro e w' ⟨rfl, hx⟩)
  go_ret
  exact ⟨by rw [← H.out]; rfl, hx⟩
set_option maxHeartbeats 1000000 in
theorem done_any (AA : Option Addr) (nA cA : Nat) (l : List AllocD) (j : JobD) (gv : Value) (x : SlotD) (w : World) (s0 s1 s2 s3 s4 s6 s7 s8 : Value) (hl : Sl w 11 AA nA (l.map AllocD.cells)) (hn : nA ≤ 67108864) :
    Calls Tryz.prog 53 #[.agg #[s0, s1, s2, s3, s4, .slice AA nA cA, s6, s7, s8], .agg (JobV.cells (j, gv)).toArray, .agg #[.int .i64 x.group, .int .i64 x.index]] w fun e w' => e = .returned (.bool (doneB l j x)) ∧ Ext Nothing w w' := by
  have hx0 : Ext Nothing w (((w.alloc (.cells #[s0, s1, s2, s3, s4, .slice AA nA cA, s6, s7, s8] 29)).alloc (.cells (JobV.cells (j, gv)).toArray 43)).alloc (.cells #[.int .i64 x.group, .int .i64 x.index] 86)) := by (repeat' (first | (with_reducible assumption) | (with_reducible exact Ext.refl _ _) | (with_reducible refine Ext.alloc ?_ _) | (with_reducible refine Ext.drew ?_) | (with_reducible refine Ext.drewN ?_ _) | (with_reducible refine Ext.setCell ?_ (.inl (by simp only [World.size_alloc, World.size_setCell, World.size_drew] <;> omega)) _) | (with_reducible refine Ext.trans ?_ (by assumption) (fun _ _ e => e))))
  have hj : Blk (((w.alloc (.cells #[s0, s1, s2, s3, s4, .slice AA nA cA, s6, s7, s8] 29)).alloc (.cells (JobV.cells (j, gv)).toArray 43)).alloc (.cells #[.int .i64 x.group, .int .i64 x.index] 86)) (w.heap.size + 1) 43 (JobV.cells (j, gv)).toArray := (Blk.new' (w.alloc (.cells #[s0, s1, s2, s3, s4, .slice AA nA cA, s6, s7, s8] 29)) _ _ (by simp)).ext (S := Nothing) (by (repeat' (first | (with_reducible assumption) | (with_reducible exact Ext.refl _ _) | (with_reducible refine Ext.alloc ?_ _) | (with_reducible refine Ext.drew ?_) | (with_reducible refine Ext.drewN ?_ _) | (with_reducible refine Ext.setCell ?_ (.inl (by simp only [World.size_alloc, World.size_setCell, World.size_drew] <;> omega)) _) | (with_reducible refine Ext.trans ?_ (by assumption) (fun _ _ e => e))))) (fun e => e)
  have hs : Blk (((w.alloc (.cells #[s0, s1, s2, s3, s4, .slice AA nA cA, s6, s7, s8] 29)).alloc (.cells (JobV.cells (j, gv)).toArray 43)).alloc (.cells #[.int .i64 x.group, .int .i64 x.index] 86)) (w.heap.size + 1 + 1) 86 #[.int .i64 x.group, .int .i64 x.index] := Blk.new' _ _ _ (by simp)
  have hq : (((w.alloc (.cells #[s0, s1, s2, s3, s4, .slice AA nA cA, s6, s7, s8] 29)).alloc (.cells (JobV.cells (j, gv)).toArray 43)).alloc (.cells #[.int .i64 x.group, .int .i64 x.index] 86)).cell? ⟨w.heap.size + 1, 1, none⟩ = some (.int .i64 j.ty) := hj.cell 1
  have hl0 := hl.ext0 hx0
  cases e1 : (j.ty == 2) with
  | false =>
    have H := Lib.hid (show doneB l j x = false by simp [doneB, e1])
    go_enter Tryz.func53, Tryz.ntmps53
    go_wp2
    go_ret
    exact ⟨by rw [H.out]; rfl, hx0⟩
  | true =>
    have H := Lib.hid (show doneB l j x = l.any (done1 j x) by unfold doneB; rw [e1]; rfl)
    go_enter Tryz.func53, Tryz.ntmps53
    go_wp2_with (go_at_call 18; refine (containsDone AA nA cA l _ _ j gv x _ hl0 hj hs hn).mono ?_; rintro e w' ⟨rfl, hx⟩)
    go_ret
    exact ⟨by rw [H.out]; rfl, hx0.trans hx (fun _ _ e => e)⟩
end Go.Proofs.YtfmkoemogicdkaaGreat
