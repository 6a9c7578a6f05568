/- The finders of package store: the place of the first one that is looked for. (printed by wip/gen/at.py) -/
import Derived.Test.YtfmkoemogicdkaaGreatStore
import Derived.Test.YtfmkoemogicdkaaGreatRows
import Derived.StillTailTactics
namespace Go.Proofs.YtfmkoemogicdkaaGreat
set_option linter.unusedVariables false
open Go.RowKit

theorem STJob : StructT Tryz.prog 43 7 := .of (by kernel_rfl)
theorem STNode : StructT Tryz.prog 37 8 := .of (by kernel_rfl)
theorem STAlloc : StructT Tryz.prog 55 11 := .of (by kernel_rfl)
theorem STEval : StructT Tryz.prog 39 4 := .of (by kernel_rfl)
theorem STDeploy : StructT Tryz.prog 69 4 := .of (by kernel_rfl)
theorem STStore : StructT Tryz.prog 29 9 := .of (by kernel_rfl)

theorem isJob (x : JobV) (bx : Nat) (k : Int) (w : World) (hb : Blk w bx 3 #[.int .i64 k]) :
    Calls Tryz.prog 45 #[.agg (JobV.cells x).toArray, .pointer (some ⟨bx, 0, none⟩)] w fun e w' => e = .returned (.bool (x.1.id == k)) ∧ Ext Nothing w w' := by
  obtain ⟨⟨x0, x1, x2, x3, xg, x5, x6⟩, xv⟩ := x
  have hx0 : Ext Nothing w (w.alloc (.cells #[.int .i64 x0, .int .i64 x1, .int .i64 x2, .int .i64 x3, xv, .int .i64 x5, .bool x6] 43)) := (Ext.refl _ _).alloc _
  have q1 : (w.alloc (.cells #[.int .i64 x0, .int .i64 x1, .int .i64 x2, .int .i64 x3, xv, .int .i64 x5, .bool x6] 43)).cell? ⟨bx, 0, none⟩ = some (.int .i64 k) := hx0.cell (hb.cell 0) (fun e => e)
  simp only [JobV.cells, reduceCtorEq]
  go_enter Tryz.func45, Tryz.ntmps45
  go_wp2
  go_ret
  exact ⟨rfl, hx0⟩
set_option maxHeartbeats 1000000 in
theorem atJob (A : Option Addr) (n cap : Nat) (l : List (JobV)) (bx : Nat) (k : Int) (w : World) (hl : Sl w 7 A n (l.map JobV.cells)) (hb : Blk w bx 3 #[.int .i64 k]) (hn : n ≤ 67108864) :
    Calls Tryz.prog 44 #[.slice A n cap, .func (.func 45) #[] #[.pointer (some ⟨bx, 0, none⟩)]] w fun e w' => e = .returned (.int .i64 (idxI (fun x => x.1.id == k) l)) ∧ Ext Nothing w w' := by
  have hlen := Lib.hid hl.len
  go_enter Tryz.func44, Tryz.ntmps44
  go_wp2
  go_loopw [8] (fun i wr => ∃ j : Nat, j ≤ n ∧ i = .int .i64 j ∧ (∀ i < j, ∀ y, l[i]? = some y → (y.1.id == k) = false) ∧ Ext Nothing w wr) (fun i _ => n - (intOf i).toNat)
  case atStart => exact ⟨0, Nat.zero_le _, rfl, fun j hj => absurd hj (by omega), Ext.refl _ _⟩
  case round =>
    obtain ⟨j, hj, rfl, hno, hx⟩ := hrel
    by_cases hlt : j < n
    · obtain ⟨hjn, b, off, rfl, hce⟩ := hl.get hx hlt
      have hy : l[j]? = some l[j] := List.getElem?_eq_getElem hjn
      generalize l[j] = x at hce hy
      cases hp : (x.1.id == k) with
      | true =>
        have hr := Lib.hid (idx_hit (p := fun x : JobV => x.1.id == k) hno hy hp)
        have hp' := Lib.hid hp
        clear hno hy hp
        go_wp2_with (first | (refine wpList_load_at rfl 43 _ rfl STJob b (off + j * 7) rfl (JobV.cells x).toArray (by exact hce) rfl ?_) | (go_at_call 45; refine (isJob x bx k _ (hb.ext hx (fun e => e))).mono ?_; rintro e w' ⟨rfl, hx1⟩; rw [hp'.out]))
        go_ret
        exact ⟨by rw [hr.out]; rfl, hx.trans hx1 (fun _ _ e => e)⟩
      | false =>
        have hno' : ∀ i < j + 1, ∀ y, l[i]? = some y → (y.1.id == k) = false := fun i hi y hy' => by
          by_cases h : i = j
          · subst h; rw [hy] at hy'; cases hy'; exact hp
          · exact hno i (by omega) y hy'
        have HN := Lib.hid hno'
        have hp' := Lib.hid hp
        clear hno hno' hy hp
        go_wp2_with (first | (refine wpList_load_at rfl 43 _ rfl STJob b (off + j * 7) rfl (JobV.cells x).toArray (by exact hce) rfl ?_) | (go_at_call 45; refine (isJob x bx k _ (hb.ext hx (fun e => e))).mono ?_; rintro e w' ⟨rfl, hx1⟩; rw [hp'.out]))
        go_roundw
        case rel => exact ⟨j + 1, by omega, by go_num, HN.out, hx.trans hx1 (fun _ _ e => e)⟩
        case measure => simp [intOf]; omega
    · have hr := Lib.hid (idx_none (p := fun x : JobV => x.1.id == k) (l := l) (fun i hi y hy => hno i (by have := hlen.out; omega) y hy))
      clear hno
      go_wp2
      go_ret
      exact ⟨by rw [hr.out]; rfl, hx⟩
theorem findJob (A : Option Addr) (n cap : Nat) (l : List (JobV)) (k : Int) (w : World) (hl : Sl w 7 A n (l.map JobV.cells)) (hn : n ≤ 67108864) (s0 s1 s2 s3 s4 s5 s6 s7 s8 : Value) (hs : s2 = .slice A n cap) :
    Calls Tryz.prog 26 #[.agg #[s0, s1, s2, s3, s4, s5, s6, s7, s8], .int .i64 k] w fun e w' => e = .returned (.int .i64 (idxI (fun x => x.1.id == k) l)) ∧ Ext Nothing w w' := by
  subst hs
  have hx0 : Ext Nothing w ((w.alloc (.cells #[s0, s1, .slice A n cap, s3, s4, s5, s6, s7, s8] 29)).alloc (.cells #[.int .i64 k] 3)) := ((Ext.refl _ _).alloc _).alloc _
  have hb : Blk ((w.alloc (.cells #[s0, s1, .slice A n cap, s3, s4, s5, s6, s7, s8] 29)).alloc (.cells #[.int .i64 k] 3)) (w.heap.size + 1) 3 #[.int .i64 k] := Blk.new' _ _ _ (by simp)
  go_enter Tryz.func26, Tryz.ntmps26
  go_wp2_with (go_at_call 44; refine (atJob A n cap l _ k _ (hl.ext0 hx0) hb hn).mono ?_; rintro e w' ⟨rfl, hx⟩)
  go_ret
  exact ⟨rfl, hx0.trans hx (fun _ _ e => e)⟩

theorem isNode (x : NodD) (bx : Nat) (k : Int) (w : World) (hb : Blk w bx 3 #[.int .i64 k]) :
    Calls Tryz.prog 36 #[.agg (NodD.cells x).toArray, .pointer (some ⟨bx, 0, none⟩)] w fun e w' => e = .returned (.bool (x.id == k)) ∧ Ext Nothing w w' := by
  obtain ⟨x0, ⟨x1, x2⟩, x3, x4, x5, x6, x7⟩ := x
  have hx0 : Ext Nothing w (w.alloc (.cells #[.int .i64 x0, .int .i64 x1, .int .i64 x2, .bool x3, .bool x4, .int .i64 x5, .int .i64 x6, .int .i64 x7] 37)) := (Ext.refl _ _).alloc _
  have q1 : (w.alloc (.cells #[.int .i64 x0, .int .i64 x1, .int .i64 x2, .bool x3, .bool x4, .int .i64 x5, .int .i64 x6, .int .i64 x7] 37)).cell? ⟨bx, 0, none⟩ = some (.int .i64 k) := hx0.cell (hb.cell 0) (fun e => e)
  simp only [NodD.cells, reduceCtorEq]
  go_enter Tryz.func36, Tryz.ntmps36
  go_wp2
  go_ret
  exact ⟨rfl, hx0⟩
set_option maxHeartbeats 1000000 in
theorem atNode (A : Option Addr) (n cap : Nat) (l : List (NodD)) (bx : Nat) (k : Int) (w : World) (hl : Sl w 8 A n (l.map NodD.cells)) (hb : Blk w bx 3 #[.int .i64 k]) (hn : n ≤ 67108864) :
    Calls Tryz.prog 35 #[.slice A n cap, .func (.func 36) #[] #[.pointer (some ⟨bx, 0, none⟩)]] w fun e w' => e = .returned (.int .i64 (idxI (fun x => x.id == k) l)) ∧ Ext Nothing w w' := by
  have hlen := Lib.hid hl.len
  go_enter Tryz.func35, Tryz.ntmps35
  go_wp2
  go_loopw [8] (fun i wr => ∃ j : Nat, j ≤ n ∧ i = .int .i64 j ∧ (∀ i < j, ∀ y, l[i]? = some y → (y.id == k) = false) ∧ Ext Nothing w wr) (fun i _ => n - (intOf i).toNat)
  case atStart => exact ⟨0, Nat.zero_le _, rfl, fun j hj => absurd hj (by omega), Ext.refl _ _⟩
  case round =>
    obtain ⟨j, hj, rfl, hno, hx⟩ := hrel
    by_cases hlt : j < n
    · obtain ⟨hjn, b, off, rfl, hce⟩ := hl.get hx hlt
      have hy : l[j]? = some l[j] := List.getElem?_eq_getElem hjn
      generalize l[j] = x at hce hy
      cases hp : (x.id == k) with
      | true =>
        have hr := Lib.hid (idx_hit (p := fun x : NodD => x.id == k) hno hy hp)
        have hp' := Lib.hid hp
        clear hno hy hp
        go_wp2_with (first | (refine wpList_load_at rfl 37 _ rfl STNode b (off + j * 8) rfl (NodD.cells x).toArray (by exact hce) rfl ?_) | (go_at_call 36; refine (isNode x bx k _ (hb.ext hx (fun e => e))).mono ?_; rintro e w' ⟨rfl, hx1⟩; rw [hp'.out]))
        go_ret
        exact ⟨by rw [hr.out]; rfl, hx.trans hx1 (fun _ _ e => e)⟩
      | false =>
        have hno' : ∀ i < j + 1, ∀ y, l[i]? = some y → (y.id == k) = false := fun i hi y hy' => by
          by_cases h : i = j
          · subst h; rw [hy] at hy'; cases hy'; exact hp
          · exact hno i (by omega) y hy'
        have HN := Lib.hid hno'
        have hp' := Lib.hid hp
        clear hno hno' hy hp
        go_wp2_with (first | (refine wpList_load_at rfl 37 _ rfl STNode b (off + j * 8) rfl (NodD.cells x).toArray (by exact hce) rfl ?_) | (go_at_call 36; refine (isNode x bx k _ (hb.ext hx (fun e => e))).mono ?_; rintro e w' ⟨rfl, hx1⟩; rw [hp'.out]))
        go_roundw
        case rel => exact ⟨j + 1, by omega, by go_num, HN.out, hx.trans hx1 (fun _ _ e => e)⟩
        case measure => simp [intOf]; omega
    · have hr := Lib.hid (idx_none (p := fun x : NodD => x.id == k) (l := l) (fun i hi y hy => hno i (by have := hlen.out; omega) y hy))
      clear hno
      go_wp2
      go_ret
      exact ⟨by rw [hr.out]; rfl, hx⟩
theorem findNode (A : Option Addr) (n cap : Nat) (l : List (NodD)) (k : Int) (w : World) (hl : Sl w 8 A n (l.map NodD.cells)) (hn : n ≤ 67108864) (s0 s1 s2 s3 s4 s5 s6 s7 s8 : Value) (hs : s4 = .slice A n cap) :
    Calls Tryz.prog 20 #[.agg #[s0, s1, s2, s3, s4, s5, s6, s7, s8], .int .i64 k] w fun e w' => e = .returned (.int .i64 (idxI (fun x => x.id == k) l)) ∧ Ext Nothing w w' := by
  subst hs
  have hx0 : Ext Nothing w ((w.alloc (.cells #[s0, s1, s2, s3, .slice A n cap, s5, s6, s7, s8] 29)).alloc (.cells #[.int .i64 k] 3)) := ((Ext.refl _ _).alloc _).alloc _
  have hb : Blk ((w.alloc (.cells #[s0, s1, s2, s3, .slice A n cap, s5, s6, s7, s8] 29)).alloc (.cells #[.int .i64 k] 3)) (w.heap.size + 1) 3 #[.int .i64 k] := Blk.new' _ _ _ (by simp)
  go_enter Tryz.func20, Tryz.ntmps20
  go_wp2_with (go_at_call 35; refine (atNode A n cap l _ k _ (hl.ext0 hx0) hb hn).mono ?_; rintro e w' ⟨rfl, hx⟩)
  go_ret
  exact ⟨rfl, hx0.trans hx (fun _ _ e => e)⟩

theorem isEval (x : EvalD) (bx : Nat) (k : Int) (w : World) (hb : Blk w bx 3 #[.int .i64 k]) :
    Calls Tryz.prog 57 #[.agg (EvalD.cells x).toArray, .pointer (some ⟨bx, 0, none⟩)] w fun e w' => e = .returned (.bool (x.job == k)) ∧ Ext Nothing w w' := by
  obtain ⟨x0, x1, x2, x3⟩ := x
  have hx0 : Ext Nothing w (w.alloc (.cells #[.int .i64 x0, .int .i64 x1, .int .i64 x2, .int .i64 x3] 39)) := (Ext.refl _ _).alloc _
  have q1 : (w.alloc (.cells #[.int .i64 x0, .int .i64 x1, .int .i64 x2, .int .i64 x3] 39)).cell? ⟨bx, 0, none⟩ = some (.int .i64 k) := hx0.cell (hb.cell 0) (fun e => e)
  simp only [EvalD.cells, reduceCtorEq]
  go_enter Tryz.func57, Tryz.ntmps57
  go_wp2
  go_ret
  exact ⟨rfl, hx0⟩
set_option maxHeartbeats 1000000 in
theorem atEval (A : Option Addr) (n cap : Nat) (l : List (EvalD)) (bx : Nat) (k : Int) (w : World) (hl : Sl w 4 A n (l.map EvalD.cells)) (hb : Blk w bx 3 #[.int .i64 k]) (hn : n ≤ 67108864) :
    Calls Tryz.prog 56 #[.slice A n cap, .func (.func 57) #[] #[.pointer (some ⟨bx, 0, none⟩)]] w fun e w' => e = .returned (.int .i64 (idxI (fun x => x.job == k) l)) ∧ Ext Nothing w w' := by
  have hlen := Lib.hid hl.len
  go_enter Tryz.func56, Tryz.ntmps56
  go_wp2
  go_loopw [8] (fun i wr => ∃ j : Nat, j ≤ n ∧ i = .int .i64 j ∧ (∀ i < j, ∀ y, l[i]? = some y → (y.job == k) = false) ∧ Ext Nothing w wr) (fun i _ => n - (intOf i).toNat)
  case atStart => exact ⟨0, Nat.zero_le _, rfl, fun j hj => absurd hj (by omega), Ext.refl _ _⟩
  case round =>
    obtain ⟨j, hj, rfl, hno, hx⟩ := hrel
    by_cases hlt : j < n
    · obtain ⟨hjn, b, off, rfl, hce⟩ := hl.get hx hlt
      have hy : l[j]? = some l[j] := List.getElem?_eq_getElem hjn
      generalize l[j] = x at hce hy
      cases hp : (x.job == k) with
      | true =>
        have hr := Lib.hid (idx_hit (p := fun x : EvalD => x.job == k) hno hy hp)
        have hp' := Lib.hid hp
        clear hno hy hp
        go_wp2_with (first | (refine wpList_load_at rfl 39 _ rfl STEval b (off + j * 4) rfl (EvalD.cells x).toArray (by exact hce) rfl ?_) | (go_at_call 57; refine (isEval x bx k _ (hb.ext hx (fun e => e))).mono ?_; rintro e w' ⟨rfl, hx1⟩; rw [hp'.out]))
        go_ret
        exact ⟨by rw [hr.out]; rfl, hx.trans hx1 (fun _ _ e => e)⟩
      | false =>
        have hno' : ∀ i < j + 1, ∀ y, l[i]? = some y → (y.job == k) = false := fun i hi y hy' => by
          by_cases h : i = j
          · subst h; rw [hy] at hy'; cases hy'; exact hp
          · exact hno i (by omega) y hy'
        have HN := Lib.hid hno'
        have hp' := Lib.hid hp
        clear hno hno' hy hp
        go_wp2_with (first | (refine wpList_load_at rfl 39 _ rfl STEval b (off + j * 4) rfl (EvalD.cells x).toArray (by exact hce) rfl ?_) | (go_at_call 57; refine (isEval x bx k _ (hb.ext hx (fun e => e))).mono ?_; rintro e w' ⟨rfl, hx1⟩; rw [hp'.out]))
        go_roundw
        case rel => exact ⟨j + 1, by omega, by go_num, HN.out, hx.trans hx1 (fun _ _ e => e)⟩
        case measure => simp [intOf]; omega
    · have hr := Lib.hid (idx_none (p := fun x : EvalD => x.job == k) (l := l) (fun i hi y hy => hno i (by have := hlen.out; omega) y hy))
      clear hno
      go_wp2
      go_ret
      exact ⟨by rw [hr.out]; rfl, hx⟩
theorem findEval (A : Option Addr) (n cap : Nat) (l : List (EvalD)) (k : Int) (w : World) (hl : Sl w 4 A n (l.map EvalD.cells)) (hn : n ≤ 67108864) (s0 s1 s2 s3 s4 s5 s6 s7 s8 : Value) (hs : s6 = .slice A n cap) :
    Calls Tryz.prog 43 #[.agg #[s0, s1, s2, s3, s4, s5, s6, s7, s8], .int .i64 k] w fun e w' => e = .returned (.int .i64 (idxI (fun x => x.job == k) l)) ∧ Ext Nothing w w' := by
  subst hs
  have hx0 : Ext Nothing w ((w.alloc (.cells #[s0, s1, s2, s3, s4, s5, .slice A n cap, s7, s8] 29)).alloc (.cells #[.int .i64 k] 3)) := ((Ext.refl _ _).alloc _).alloc _
  have hb : Blk ((w.alloc (.cells #[s0, s1, s2, s3, s4, s5, .slice A n cap, s7, s8] 29)).alloc (.cells #[.int .i64 k] 3)) (w.heap.size + 1) 3 #[.int .i64 k] := Blk.new' _ _ _ (by simp)
  go_enter Tryz.func43, Tryz.ntmps43
  go_wp2_with (go_at_call 56; refine (atEval A n cap l _ k _ (hl.ext0 hx0) hb hn).mono ?_; rintro e w' ⟨rfl, hx⟩)
  go_ret
  exact ⟨rfl, hx0.trans hx (fun _ _ e => e)⟩

end Go.Proofs.YtfmkoemogicdkaaGreat
