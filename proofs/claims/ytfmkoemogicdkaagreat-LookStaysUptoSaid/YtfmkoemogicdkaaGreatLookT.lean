/- Settled: whether a store has nothing left to do. (printed by wip/gen/settled.py) -/
import Derived.Test.YtfmkoemogicdkaaGreatCalm
import Derived.Test.YtfmkoemogicdkaaGreatSchedR
import Derived.Test.YtfmkoemogicdkaaGreatBest
import Derived.Test.YtfmkoemogicdkaaGreatDiff
namespace Go.Proofs.YtfmkoemogicdkaaGreat
set_option linter.unusedVariables false
open Go.RowKit

def pendB (x : EvalD) : Bool := x.state == 1
theorem isPend (x : EvalD) (w : World) : Calls Tryz.prog 22 #[.agg (EvalD.cells x).toArray] w fun e w' => e = .returned (.bool (pendB x)) ∧ Ext Nothing w w' := by
  have hx0 : Ext Nothing w (w.alloc (.cells #[.int .i64 x.job, .int .i64 x.prio, .int .i64 x.state, .int .i64 x.index] 39)) := (Ext.refl _ _).alloc _
  show Calls Tryz.prog 22 #[.agg #[.int .i64 x.job, .int .i64 x.prio, .int .i64 x.state, .int .i64 x.index]] w _
  unfold pendB
  go_enter Tryz.func22, Tryz.ntmps22
  go_wp2
  go_ret
  exact ⟨rfl, hx0⟩


set_option maxHeartbeats 1000000 in
theorem ixPend (A : Option Addr) (n cap : Nat) (l : List (EvalD)) (w : World) (hl : Sl w 4 A n (l.map EvalD.cells)) (hn : n ≤ 67108864)  :
    Calls Tryz.prog 37 #[.slice A n cap, .func (.func 22) #[] #[]] w fun e w' => e = .returned (.int .i64 (idxI (pendB) l)) ∧ Ext Nothing w w' := by
  have hlen := Lib.hid hl.len
  go_enter Tryz.func37, Tryz.ntmps37
  go_wp2
  go_loopw [8] (fun i wr => ∃ j : Nat, j ≤ n ∧ i = .int .i64 j ∧ (∀ i < j, ∀ y, l[i]? = some y → (pendB) y = false) ∧ Ext Nothing w wr) (fun i _ => n - (intOf i).toNat)
  case atStart => exact ⟨0, Nat.zero_le _, rfl, fun j hj => absurd hj (by omega), Ext.refl _ _⟩
  case round =>
    obtain ⟨j, hj, rfl, hno, hxx⟩ := hrel
    by_cases hlt : j < n
    · obtain ⟨hjn, b, off, rfl, hce⟩ := hl.get hxx hlt
      have hy : l[j]? = some l[j] := List.getElem?_eq_getElem hjn
      generalize l[j] = x at hce hy
      have hm : x ∈ l := List.mem_of_getElem? hy
      cases hp : (pendB) x with
      | true =>
        have hr := Lib.hid (idx_hit (p := pendB) hno hy hp)
        have hp' := Lib.hid hp
        clear hno hy hp
        go_wp2_with (first | (refine wpList_load_at rfl 39 _ rfl STEval b (off + j * 4) rfl (EvalD.cells x).toArray (by exact hce) rfl ?_) | (go_at_call 22; refine (isPend x _).mono ?_; rintro e w' ⟨rfl, hx1⟩; rw [hp'.out]))
        go_ret
        exact ⟨by rw [hr.out]; rfl, hxx.trans hx1 (fun _ _ e => e)⟩
      | false =>
        have hno' : ∀ i < j + 1, ∀ y, l[i]? = some y → (pendB) y = false := fun i hi y hy' => by
          by_cases h : i = j
          · subst h; rw [hy] at hy'; cases hy'; exact hp
          · exact hno i (by omega) y hy'
        have HN := Lib.hid hno'
        have hp' := Lib.hid hp
        clear hno hno' hy hp
        go_wp2_with (first | (refine wpList_load_at rfl 39 _ rfl STEval b (off + j * 4) rfl (EvalD.cells x).toArray (by exact hce) rfl ?_) | (go_at_call 22; refine (isPend x _).mono ?_; rintro e w' ⟨rfl, hx1⟩; rw [hp'.out]))
        go_roundw
        case rel => exact ⟨j + 1, by omega, by go_num, HN.out, hxx.trans hx1 (fun _ _ e => e)⟩
        case measure => simp [intOf]; omega
    · have hr := Lib.hid (idx_none (p := pendB) (l := l) (fun i hi y hy => hno i (by have := hlen.out; omega) y hy))
      clear hno
      go_wp2
      go_ret
      exact ⟨by rw [hr.out]; rfl, hxx⟩
theorem ctPend (A : Option Addr) (n cap : Nat) (l : List (EvalD)) (w : World) (hl : Sl w 4 A n (l.map EvalD.cells)) (hn : n ≤ 67108864)  :
    Calls Tryz.prog 21 #[.slice A n cap, .func (.func 22) #[] #[]] w fun e w' => e = .returned (.bool (l.any (pendB))) ∧ Ext Nothing w w' := by
  have hi := ixPend A n cap l w hl hn 
  rw [← idx_any (pendB) l]
  generalize idxI (pendB) l = z at hi ⊢
  go_enter Tryz.func21, Tryz.ntmps21
  cases hz : decide (z ≥ 0) with
  | true =>
    have hz' := of_decide_eq_true hz
    go_wp2_with (go_at_call 37; refine hi.mono ?_; rintro e w1 ⟨rfl, hx1⟩)
    go_ret
    exact ⟨rfl, hx1⟩
  | false =>
    have hz' := of_decide_eq_false hz
    go_wp2_with (go_at_call 37; refine hi.mono ?_; rintro e w1 ⟨rfl, hx1⟩)
    go_ret
    exact ⟨rfl, hx1⟩


def goneB (k : Int) (x : AllocD) : Bool := x.job == k && x.stop && !overB x
set_option maxHeartbeats 1000000 in
theorem isGone (x : AllocD) (bs : Nat) (k : Int) (w : World) {t : Nat} {cs : Array Value} (hb : Blk w bs t cs) (h0 : cs[0]? = some (.int .i64 k)) :
    Calls Tryz.prog 40 #[.agg (AllocD.cells x).toArray, .pointer (some ⟨bs, 0, none⟩)] w fun e w' => e = .returned (.bool (goneB k x)) ∧ Ext Nothing w w' := by
  have hx0 : Ext Nothing w (w.alloc (.cells #[.int .i64 x.id, .int .i64 x.job, .int .i64 x.ver, .int .i64 x.group, .int .i64 x.index, .int .i64 x.node, .int .i64 x.epoch, .int .i64 x.ask.cpu, .int .i64 x.ask.mem, .bool x.stop, .int .i64 x.state] 55)) := (Ext.refl _ _).alloc _
  have hbx : Blk (w.alloc (.cells #[.int .i64 x.id, .int .i64 x.job, .int .i64 x.ver, .int .i64 x.group, .int .i64 x.index, .int .i64 x.node, .int .i64 x.epoch, .int .i64 x.ask.cpu, .int .i64 x.ask.mem, .bool x.stop, .int .i64 x.state] 55)) w.heap.size 55 #[.int .i64 x.id, .int .i64 x.job, .int .i64 x.ver, .int .i64 x.group, .int .i64 x.index, .int .i64 x.node, .int .i64 x.epoch, .int .i64 x.ask.cpu, .int .i64 x.ask.mem, .bool x.stop, .int .i64 x.state] := Blk.new _ _ _
  have q0 : (w.alloc (.cells #[.int .i64 x.id, .int .i64 x.job, .int .i64 x.ver, .int .i64 x.group, .int .i64 x.index, .int .i64 x.node, .int .i64 x.epoch, .int .i64 x.ask.cpu, .int .i64 x.ask.mem, .bool x.stop, .int .i64 x.state] 55)).cell? ⟨bs, 0, none⟩ = some (.int .i64 k) := by rw [(hb.ext hx0 (fun e => e)).cell]; exact h0
  have HO := Lib.hid (show overB x = decide (3 ≤ x.state) from rfl)
  show Calls Tryz.prog 40 #[.agg #[.int .i64 x.id, .int .i64 x.job, .int .i64 x.ver, .int .i64 x.group, .int .i64 x.index, .int .i64 x.node, .int .i64 x.epoch, .int .i64 x.ask.cpu, .int .i64 x.ask.mem, .bool x.stop, .int .i64 x.state], .pointer (some ⟨bs, 0, none⟩)] w _
  go_enter Tryz.func40, Tryz.ntmps40
  cases d1 : (x.job == k) with
  | false =>
    have HB := Lib.hid (show goneB k x = false by simp only [goneB, d1]; rfl)
    go_wp2
    go_ret
    exact ⟨by rw [HB.out]; rfl, hx0⟩
  | true =>
    cases d2 : x.stop with
    | false =>
      have HB := Lib.hid (show goneB k x = false by simp only [goneB, d1, d2]; rfl)
      rw [d2] at hbx hx0 q0
      go_wp2
      go_ret
      exact ⟨by rw [HB.out]; rfl, hx0⟩
    | true =>
      cases hv : overB x with
      | true =>
        have HV := Lib.hid (HO.out.symm.trans hv)
        have HB := Lib.hid (show goneB k x = false by simp only [goneB, d1, d2, hv]; rfl)
        rw [d2] at hbx hx0 q0
        clear hv
        go_wp2_with (go_at_call 17; refine (over_any _ x.state _ rfl rfl).mono ?_; rintro e w5 ⟨rfl, hx5⟩; rw [HV.out])
        go_ret
        exact ⟨by rw [HB.out]; rfl, hx0.trans hx5 (fun _ _ e => e)⟩
      | false =>
        have HV := Lib.hid (HO.out.symm.trans hv)
        have HB := Lib.hid (show goneB k x = true by simp only [goneB, d1, d2, hv]; rfl)
        rw [d2] at hbx hx0 q0
        clear hv
        go_wp2_with (go_at_call 17; refine (over_any _ x.state _ rfl rfl).mono ?_; rintro e w5 ⟨rfl, hx5⟩; rw [HV.out])
        go_ret
        exact ⟨by rw [HB.out]; rfl, hx0.trans hx5 (fun _ _ e => e)⟩


set_option maxHeartbeats 1000000 in
theorem ixGone (A : Option Addr) (n cap : Nat) (l : List (AllocD)) (w : World) (hl : Sl w 11 A n (l.map AllocD.cells)) (hn : n ≤ 67108864) (bs : Nat) (k : Int) {tt : Nat} {cs : Array Value} (hb : Blk w bs tt cs) (h0 : cs[0]? = some (.int .i64 k)) :
    Calls Tryz.prog 34 #[.slice A n cap, .func (.func 40) #[] #[.pointer (some ⟨bs, 0, none⟩)]] w fun e w' => e = .returned (.int .i64 (idxI (goneB k) l)) ∧ Ext Nothing w w' := by
  have hlen := Lib.hid hl.len
  go_enter Tryz.func34, Tryz.ntmps34
  go_wp2
  go_loopw [8] (fun i wr => ∃ j : Nat, j ≤ n ∧ i = .int .i64 j ∧ (∀ i < j, ∀ y, l[i]? = some y → (goneB k) y = false) ∧ Ext Nothing w wr) (fun i _ => n - (intOf i).toNat)
  case atStart => exact ⟨0, Nat.zero_le _, rfl, fun j hj => absurd hj (by omega), Ext.refl _ _⟩
  case round =>
    obtain ⟨j, hj, rfl, hno, hxx⟩ := hrel
    by_cases hlt : j < n
    · obtain ⟨hjn, b, off, rfl, hce⟩ := hl.get hxx hlt
      have hy : l[j]? = some l[j] := List.getElem?_eq_getElem hjn
      generalize l[j] = x at hce hy
      have hm : x ∈ l := List.mem_of_getElem? hy
      cases hp : (goneB k) x with
      | true =>
        have hr := Lib.hid (idx_hit (p := goneB k) hno hy hp)
        have hp' := Lib.hid hp
        clear hno hy hp
        go_wp2_with (first | (refine wpList_load_at rfl 55 _ rfl STAlloc b (off + j * 11) rfl (AllocD.cells x).toArray (by exact hce) rfl ?_) | (go_at_call 40; refine (isGone x bs k _ (hb.ext hxx (fun e => e)) h0).mono ?_; rintro e w' ⟨rfl, hx1⟩; rw [hp'.out]))
        go_ret
        exact ⟨by rw [hr.out]; rfl, hxx.trans hx1 (fun _ _ e => e)⟩
      | false =>
        have hno' : ∀ i < j + 1, ∀ y, l[i]? = some y → (goneB k) y = false := fun i hi y hy' => by
          by_cases h : i = j
          · subst h; rw [hy] at hy'; cases hy'; exact hp
          · exact hno i (by omega) y hy'
        have HN := Lib.hid hno'
        have hp' := Lib.hid hp
        clear hno hno' hy hp
        go_wp2_with (first | (refine wpList_load_at rfl 55 _ rfl STAlloc b (off + j * 11) rfl (AllocD.cells x).toArray (by exact hce) rfl ?_) | (go_at_call 40; refine (isGone x bs k _ (hb.ext hxx (fun e => e)) h0).mono ?_; rintro e w' ⟨rfl, hx1⟩; rw [hp'.out]))
        go_roundw
        case rel => exact ⟨j + 1, by omega, by go_num, HN.out, hxx.trans hx1 (fun _ _ e => e)⟩
        case measure => simp [intOf]; omega
    · have hr := Lib.hid (idx_none (p := goneB k) (l := l) (fun i hi y hy => hno i (by have := hlen.out; omega) y hy))
      clear hno
      go_wp2
      go_ret
      exact ⟨by rw [hr.out]; rfl, hxx⟩
theorem ctGone (A : Option Addr) (n cap : Nat) (l : List (AllocD)) (w : World) (hl : Sl w 11 A n (l.map AllocD.cells)) (hn : n ≤ 67108864) (bs : Nat) (k : Int) {tt : Nat} {cs : Array Value} (hb : Blk w bs tt cs) (h0 : cs[0]? = some (.int .i64 k)) :
    Calls Tryz.prog 18 #[.slice A n cap, .func (.func 40) #[] #[.pointer (some ⟨bs, 0, none⟩)]] w fun e w' => e = .returned (.bool (l.any (goneB k))) ∧ Ext Nothing w w' := by
  have hi := ixGone A n cap l w hl hn bs k hb h0
  rw [← idx_any (goneB k) l]
  generalize idxI (goneB k) l = z at hi ⊢
  go_enter Tryz.func18, Tryz.ntmps18
  cases hz : decide (z ≥ 0) with
  | true =>
    have hz' := of_decide_eq_true hz
    go_wp2_with (go_at_call 34; refine hi.mono ?_; rintro e w1 ⟨rfl, hx1⟩)
    go_ret
    exact ⟨rfl, hx1⟩
  | false =>
    have hz' := of_decide_eq_false hz
    go_wp2_with (go_at_call 34; refine hi.mono ?_; rintro e w1 ⟨rfl, hx1⟩)
    go_ret
    exact ⟨rfl, hx1⟩


def blockedB (evals : List EvalD) (k : Int) : Bool := match evals.find? (fun e => e.job == k) with | none => false | some e => e.state == 2
def mayV (ns : List NodD) (l : List AllocD) (j : JobD) (x : SlotD) : Bool := if j.ty = 3 then mayF ns l [] x.index (askAt j x) else (bestF ns l [] (askAt j x)).isSome
def restB (ns : List NodD) (l : List AllocD) (es : List EvalD) (j : JobD) (x : SlotD) : Bool := !mayV ns l j x && blockedB es j.id
def settledF (s : StoreV) (j : JobD) : Bool := decide ((stopsF s.nodes s.allocs j).length = 0) && !s.allocs.any (goneB j.id) && (fillF s.nodes s.allocs j).all (restB s.nodes s.allocs s.evals j)
theorem askAt_at (j : JobD) (k : Nat) (i : Int) (hk : k < j.groups.length) : askAt j ⟨(k : Int), i⟩ = j.groups[k].ask := by
  simp [askAt, List.getElem?_eq_getElem hk]
theorem all_no {α : Type} {p : α → Bool} {l : List α} {t : Nat} (h : t < l.length) (hp : p l[t] = false) : l.all p = false := by
  rw [List.all_eq_false]
  exact ⟨l[t], List.getElem_mem h, by simp [hp]⟩
theorem all_yes {α : Type} {p : α → Bool} {l : List α} (h : ∀ i (hi : i < l.length), p l[i] = true) : l.all p = true := by
  rw [List.all_eq_true]
  intro x hx
  obtain ⟨i, hi, rfl⟩ := List.mem_iff_getElem.1 hx
  exact h i hi

set_option maxRecDepth 100000 in
set_option maxHeartbeats 8000000 in
theorem settled_any (s : StoreV) (j : JobD) (AG : Option Addr) (nG cG ix : Nat) (w : World) (h : s.Ok w) (hp : idxI (fun x : JobV => x.1.id == j.id) s.jobs = ix) (hix : s.jobs[ix]? = some (j, .slice AG nG cG)) :
    Calls Tryz.prog 25 #[.agg #[.int .i64 s.index, .int .i64 s.next, .slice s.AJ s.nJ s.cJ, .slice s.AS s.nS s.cS, .slice s.AN s.nN s.cN, .slice s.AA s.nA s.cA, .slice s.AE s.nE s.cE, .slice s.AD s.nD s.cD, .slice s.AX s.nX s.cX], .agg #[.int .i64 j.id, .int .i64 j.ty, .int .i64 j.prio, .int .i64 j.par, .slice AG nG cG, .int .i64 j.ver, .bool j.stopped]] w fun e w' => e = .returned (.bool (settledF s j)) ∧ Ext Nothing w w' := by
  have hx0 : Ext Nothing w ((w.alloc (.cells #[.int .i64 s.index, .int .i64 s.next, .slice s.AJ s.nJ s.cJ, .slice s.AS s.nS s.cS, .slice s.AN s.nN s.cN, .slice s.AA s.nA s.cA, .slice s.AE s.nE s.cE, .slice s.AD s.nD s.cD, .slice s.AX s.nX s.cX] 29)).alloc (.cells #[.int .i64 j.id, .int .i64 j.ty, .int .i64 j.prio, .int .i64 j.par, .slice AG nG cG, .int .i64 j.ver, .bool j.stopped] 43)) := by (repeat' (first | (with_reducible assumption) | (with_reducible exact Ext.refl _ _) | (with_reducible refine Ext.alloc ?_ _) | (with_reducible refine Ext.drew ?_) | (with_reducible refine Ext.drewN ?_ _) | (with_reducible refine Ext.setCell ?_ (.inl (by simp only [World.size_alloc, World.size_setCell, World.size_drew] <;> omega)) _) | (with_reducible refine Ext.trans ?_ (by assumption) (fun _ _ e => e))))
  have hb0 : Blk ((w.alloc (.cells #[.int .i64 s.index, .int .i64 s.next, .slice s.AJ s.nJ s.cJ, .slice s.AS s.nS s.cS, .slice s.AN s.nN s.cN, .slice s.AA s.nA s.cA, .slice s.AE s.nE s.cE, .slice s.AD s.nD s.cD, .slice s.AX s.nX s.cX] 29)).alloc (.cells #[.int .i64 j.id, .int .i64 j.ty, .int .i64 j.prio, .int .i64 j.par, .slice AG nG cG, .int .i64 j.ver, .bool j.stopped] 43)) w.heap.size 29 #[.int .i64 s.index, .int .i64 s.next, .slice s.AJ s.nJ s.cJ, .slice s.AS s.nS s.cS, .slice s.AN s.nN s.cN, .slice s.AA s.nA s.cA, .slice s.AE s.nE s.cE, .slice s.AD s.nD s.cD, .slice s.AX s.nX s.cX] := (Blk.new w _ _).ext (S := Nothing) (by (repeat' (first | (with_reducible assumption) | (with_reducible exact Ext.refl _ _) | (with_reducible refine Ext.alloc ?_ _) | (with_reducible refine Ext.drew ?_) | (with_reducible refine Ext.drewN ?_ _) | (with_reducible refine Ext.setCell ?_ (.inl (by simp only [World.size_alloc, World.size_setCell, World.size_drew] <;> omega)) _) | (with_reducible refine Ext.trans ?_ (by assumption) (fun _ _ e => e))))) (fun e => e)
  have hj0 : Blk ((w.alloc (.cells #[.int .i64 s.index, .int .i64 s.next, .slice s.AJ s.nJ s.cJ, .slice s.AS s.nS s.cS, .slice s.AN s.nN s.cN, .slice s.AA s.nA s.cA, .slice s.AE s.nE s.cE, .slice s.AD s.nD s.cD, .slice s.AX s.nX s.cX] 29)).alloc (.cells #[.int .i64 j.id, .int .i64 j.ty, .int .i64 j.prio, .int .i64 j.par, .slice AG nG cG, .int .i64 j.ver, .bool j.stopped] 43)) (w.heap.size + 1) 43 #[.int .i64 j.id, .int .i64 j.ty, .int .i64 j.prio, .int .i64 j.par, .slice AG nG cG, .int .i64 j.ver, .bool j.stopped] := Blk.new' _ _ _ (by simp)
  have h1 := h.ext0 hx0
  obtain ⟨_, AG', nG', cG', hv, hG, _, hnG⟩ := h1.kJ _ (List.mem_of_getElem? hix)
  simp only [Value.slice.injEq] at hv
  obtain ⟨rfl, rfl, rfl⟩ := hv
  simp only at hG
  have HD := diff_some s.AJ s.nJ s.cJ s.jobs j.id ix j AG nG cG s.AN s.nN s.cN s.nodes s.AA s.nA s.cA s.allocs ((w.alloc (.cells #[.int .i64 s.index, .int .i64 s.next, .slice s.AJ s.nJ s.cJ, .slice s.AS s.nS s.cS, .slice s.AN s.nN s.cN, .slice s.AA s.nA s.cA, .slice s.AE s.nE s.cE, .slice s.AD s.nD s.cD, .slice s.AX s.nX s.cX] 29)).alloc (.cells #[.int .i64 j.id, .int .i64 j.ty, .int .i64 j.prio, .int .i64 j.par, .slice AG nG cG, .int .i64 j.ver, .bool j.stopped] 43)) (.int .i64 s.index) (.int .i64 s.next) (.slice s.AS s.nS s.cS) (.slice s.AE s.nE s.cE) (.slice s.AD s.nD s.cD) (.slice s.AX s.nX s.cX) h1.sJ h1.mJ hp hix hG h1.sN h1.sA hnG h1.mN h1.mA (fun n hn => (h1.kN n hn).1) (fun a ha => ⟨(h1.kA a ha).2.2.2.1, (h1.kA a ha).2.2.2.2.1⟩)
  have hgrp : ∀ x ∈ fillF s.nodes s.allocs j, ∃ k : Nat, k < j.groups.length ∧ x.group = k := fun x hx => slotsF_mem (List.mem_filter.1 hx).1
  have hfl : (fillF s.nodes s.allocs j).length ≤ 1048576 * 1048580 := Nat.le_trans (List.length_filter_le _ _) (Nat.le_trans (slotsF_len s.nodes j) (Nat.mul_le_mul (by have := hG.len; omega) (by have := h1.sN.len; have := h1.mN; omega)))
  have hlG := Lib.hid hG.len
  unfold settledF
  generalize stopsF s.nodes s.allocs j = stops at HD ⊢
  generalize fillF s.nodes s.allocs j = fill at HD hgrp hfl ⊢
  have hmA := h1.mA
  have hmN := h1.mN
  have hmE := h1.mE
  generalize hfa : fill.all (restB s.nodes s.allocs s.evals j) = fa
  have HFA := Lib.hid hfa
  clear hfa
  generalize hgn : s.allocs.any (goneB j.id) = gn
  have HGN := Lib.hid hgn
  clear hgn hp hix
  go_enter Tryz.func25, Tryz.ntmps25
  generalize hsl : stops.length = n at HD ⊢
  have HSL := Lib.hid hsl
  clear hsl
  by_cases hn0 : 0 < n
  · have hn1 : (0 : Int) < (n : Int) := by omega
    have hn2 : ¬ n = 0 := by omega
    go_wp2_with (first | (refine wpList_load_blk rfl 29 _ rfl STStore w.heap.size rfl #[.int .i64 s.index, .int .i64 s.next, .slice s.AJ s.nJ s.cJ, .slice s.AS s.nS s.cS, .slice s.AN s.nN s.cN, .slice s.AA s.nA s.cA, .slice s.AE s.nE s.cE, .slice s.AD s.nD s.cD, .slice s.AX s.nX s.cX] (by exact hb0) rfl ?_) | (go_at_call 39; refine HD.mono ?_; rintro e w1 ⟨A1, c1, A2, c2, rfl, o1, o2, hx1⟩; have a5 : w1.cell? ⟨w.heap.size, 5, none⟩ = some (.slice s.AA s.nA s.cA) := (hb0.ext hx1 (fun e => e)).cell 5) | (go_at_call 18; refine (ctGone s.AA s.nA s.cA s.allocs _ (h1.ext0 hx1).sA (by omega) (w.heap.size + 1) j.id (hj0.ext hx1 (fun e => e)) rfl).mono ?_; rintro e w2 ⟨rfl, hx2⟩; rw [HGN.out]))
    go_ret
    exact ⟨by simp [hn2], hx0.trans hx1 (fun _ _ e => e)⟩
  · obtain rfl : n = 0 := by omega
    cases gn with
    | true =>
      go_wp2_with (first | (refine wpList_load_blk rfl 29 _ rfl STStore w.heap.size rfl #[.int .i64 s.index, .int .i64 s.next, .slice s.AJ s.nJ s.cJ, .slice s.AS s.nS s.cS, .slice s.AN s.nN s.cN, .slice s.AA s.nA s.cA, .slice s.AE s.nE s.cE, .slice s.AD s.nD s.cD, .slice s.AX s.nX s.cX] (by exact hb0) rfl ?_) | (go_at_call 39; refine HD.mono ?_; rintro e w1 ⟨A1, c1, A2, c2, rfl, o1, o2, hx1⟩; have a5 : w1.cell? ⟨w.heap.size, 5, none⟩ = some (.slice s.AA s.nA s.cA) := (hb0.ext hx1 (fun e => e)).cell 5) | (go_at_call 18; refine (ctGone s.AA s.nA s.cA s.allocs _ (h1.ext0 hx1).sA (by omega) (w.heap.size + 1) j.id (hj0.ext hx1 (fun e => e)) rfl).mono ?_; rintro e w2 ⟨rfl, hx2⟩; rw [HGN.out]))
      go_ret
      exact ⟨by simp, (hx0.trans hx1 (fun _ _ e => e)).trans hx2 (fun _ _ e => e)⟩
    | false =>
      go_wp2_with (first | (refine wpList_load_blk rfl 29 _ rfl STStore w.heap.size rfl #[.int .i64 s.index, .int .i64 s.next, .slice s.AJ s.nJ s.cJ, .slice s.AS s.nS s.cS, .slice s.AN s.nN s.cN, .slice s.AA s.nA s.cA, .slice s.AE s.nE s.cE, .slice s.AD s.nD s.cD, .slice s.AX s.nX s.cX] (by exact hb0) rfl ?_) | (go_at_call 39; refine HD.mono ?_; rintro e w1 ⟨A1, c1, A2, c2, rfl, o1, o2, hx1⟩; have a5 : w1.cell? ⟨w.heap.size, 5, none⟩ = some (.slice s.AA s.nA s.cA) := (hb0.ext hx1 (fun e => e)).cell 5) | (go_at_call 18; refine (ctGone s.AA s.nA s.cA s.allocs _ (h1.ext0 hx1).sA (by omega) (w.heap.size + 1) j.id (hj0.ext hx1 (fun e => e)) rfl).mono ?_; rintro e w2 ⟨rfl, hx2⟩; rw [HGN.out]))
      have hz2 := hx1.trans hx2 (fun _ _ e => e)
      have hb2 := hb0.ext hz2 (fun e => e)
      have hj2 := hj0.ext hz2 (fun e => e)
      have hs2 := h1.ext0 hz2
      have hG2 := hG.ext0 hz2
      have hF : Sl w2 2 A2 fill.length (fill.map SlotD.cells) := (Sl.of_own (f := SlotD.cells) (fun _ => rfl) o2 rfl).ext0 hx2
      have hw2 := hx0.trans hz2 (fun _ _ e => e)
      have hlF := Lib.hid hF.len
      clear HD o1 o2 hx1 hx2 hz2 hb0 hj0 h1 hG hx0
      go_loopw [30] (fun i wr => ∃ t : Nat, t ≤ fill.length ∧ i = .int .i64 t ∧ Ext Nothing w2 wr ∧ ∀ q (hq : q < fill.length), q < t → restB s.nodes s.allocs s.evals j fill[q] = true) (fun i _ => fill.length - (intOf i).toNat)
      case atStart => exact ⟨0, Nat.zero_le _, rfl, Ext.refl _ _, fun _ _ h => absurd h (by omega)⟩
      case round =>
        obtain ⟨t, ht, rfl, hx, hall⟩ := hrel
        by_cases hlt : t < fill.length
        · obtain ⟨_, fb, fo, hAe, hce⟩ := hF.get hx hlt
          obtain ⟨k, hk, hgk⟩ := hgrp _ (List.getElem_mem hlt)
          have hno := all_no (p := restB s.nodes s.allocs s.evals j) hlt
          have hgo : restB s.nodes s.allocs s.evals j fill[t] = true → ∀ q (hq : q < fill.length), q < t + 1 → restB s.nodes s.allocs s.evals j fill[q] = true := fun hr q hq hqt => by
            rcases Nat.lt_or_ge q t with h | h
            · exact hall q hq h
            · obtain rfl : q = t := by omega
              exact hr
          generalize fill[t] = x at hce hgk hno hgo
          obtain ⟨xg, xi⟩ := x
          simp only at hgk
          subst hgk
          have hask := askAt_at j k xi hk
          have HA := Lib.hid hAe
          rw [hAe]
          clear hAe
          have hkn : k < nG := by have := hlG.out; omega
          obtain ⟨_, gb, go, hGe, hge⟩ := hG2.get hx hkn
          generalize j.groups[k] = g at hge hask
          have HASK := Lib.hid hask
          have hk0 : (0 : Int) ≤ (t : Int) := by omega
          have hk1 : (t : Int) < fill.length := by omega
          have hk2 : (0 : Int) ≤ (k : Int) := by omega
          have hk3 : (k : Int) < nG := by omega
          have hcf : ∀ q v, (#[.int .i64 (k : Int), .int .i64 xi] : Array Value).toList[q]? = some v → wr.cell? ⟨fb, fo + t * 2 + q, none⟩ = some v := hce
          have hxS : Ext Nothing wr (wr.alloc (.cells #[.int .i64 (k : Int), .int .i64 xi] 86)) := by (repeat' (first | (with_reducible assumption) | (with_reducible exact Ext.refl _ _) | (with_reducible refine Ext.alloc ?_ _) | (with_reducible refine Ext.drew ?_) | (with_reducible refine Ext.drewN ?_ _) | (with_reducible refine Ext.setCell ?_ (.inl (by simp only [World.size_alloc, World.size_setCell, World.size_drew] <;> omega)) _) | (with_reducible refine Ext.trans ?_ (by assumption) (fun _ _ e => e))))
          have hbS : Blk (wr.alloc (.cells #[.int .i64 (k : Int), .int .i64 xi] 86)) wr.heap.size 86 #[.int .i64 (k : Int), .int .i64 xi] := Blk.new _ _ _
          have hjS := (hj2.ext hx (fun e => e)).ext hxS (fun e => e)
          have j4 : (wr.alloc (.cells #[.int .i64 (k : Int), .int .i64 xi] 86)).cell? ⟨w.heap.size + 1, 4, none⟩ = some (.slice AG nG cG) := hjS.cell 4
          rw [hGe] at j4
          have HGE := Lib.hid hGe
          clear hGe hask hall
          have hgf : ∀ q v, (#[.int .i64 g.ask.cpu, .int .i64 g.ask.mem] : Array Value).toList[q]? = some v → (wr.alloc (.cells #[.int .i64 (k : Int), .int .i64 xi] 86)).cell? ⟨gb, go + k * 3 + 1 + q, none⟩ = some v := fun q v hv => hxS.cell (by have := hge (1 + q) v (by rw [show GroupD.cells g = [.int .i64 g.count] ++ (#[.int .i64 g.ask.cpu, .int .i64 g.ask.mem] : Array Value).toList from rfl, List.getElem?_append_right (by simp)]; simpa using hv); rw [← Nat.add_assoc] at this; exact this) (fun e => e)
          have hxR : Ext Nothing wr ((wr.alloc (.cells #[.int .i64 (k : Int), .int .i64 xi] 86)).alloc (.cells #[.int .i64 g.ask.cpu, .int .i64 g.ask.mem] 35)) := by (repeat' (first | (with_reducible assumption) | (with_reducible exact Ext.refl _ _) | (with_reducible refine Ext.alloc ?_ _) | (with_reducible refine Ext.drew ?_) | (with_reducible refine Ext.drewN ?_ _) | (with_reducible refine Ext.setCell ?_ (.inl (by simp only [World.size_alloc, World.size_setCell, World.size_drew] <;> omega)) _) | (with_reducible refine Ext.trans ?_ (by assumption) (fun _ _ e => e))))
          have hbR : Blk ((wr.alloc (.cells #[.int .i64 (k : Int), .int .i64 xi] 86)).alloc (.cells #[.int .i64 g.ask.cpu, .int .i64 g.ask.mem] 35)) (wr.heap.size + 1) 35 #[.int .i64 g.ask.cpu, .int .i64 g.ask.mem] := Blk.new' _ _ _ (by simp)
          have i1 : ((wr.alloc (.cells #[.int .i64 (k : Int), .int .i64 xi] 86)).alloc (.cells #[.int .i64 g.ask.cpu, .int .i64 g.ask.mem] 35)).cell? ⟨wr.heap.size, 1, none⟩ = some (.int .i64 xi) := (hbS.ext (S := Nothing) (by (repeat' (first | (with_reducible assumption) | (with_reducible exact Ext.refl _ _) | (with_reducible refine Ext.alloc ?_ _) | (with_reducible refine Ext.drew ?_) | (with_reducible refine Ext.drewN ?_ _) | (with_reducible refine Ext.setCell ?_ (.inl (by simp only [World.size_alloc, World.size_setCell, World.size_drew] <;> omega)) _) | (with_reducible refine Ext.trans ?_ (by assumption) (fun _ _ e => e))))) (fun e => e)).cell 1
          have hbw := (hb2.ext hx (fun e => e)).ext hxR (fun e => e)
          have hjw := (hj2.ext hx (fun e => e)).ext hxR (fun e => e)
          have hsw := (hs2.ext0 hx).ext0 hxR
          have hEw := hsw.sE
          generalize hmv : mayV s.nodes s.allocs j ⟨(k : Int), xi⟩ = mv
          have HMV := Lib.hid hmv
          clear hmv
          have hmayF : j.ty = 3 → mayF s.nodes s.allocs [] xi g.ask = mv := fun h3 => by have := HMV.out; rw [mayV, if_pos h3, HASK.out] at this; exact this
          have hbest : ¬ j.ty = 3 → (bestF s.nodes s.allocs [] g.ask).isSome = mv := fun h3 => by have := HMV.out; rw [mayV, if_neg h3, HASK.out] at this; exact this
          generalize hml : mayF s.nodes s.allocs [] xi g.ask = ml at hmayF
          have HML := Lib.hid hml
          clear hml
          generalize hbl : (bestF s.nodes s.allocs [] g.ask).isSome = bl at hbest
          have HBL := Lib.hid hbl
          clear hbl
          have hrest : restB s.nodes s.allocs s.evals j ⟨(k : Int), xi⟩ = (!mv && blockedB s.evals j.id) := by rw [restB, HMV.out]
          have HREST := Lib.hid hrest
          clear hrest
          have HNO := Lib.hid hno
          have HGO := Lib.hid hgo
          clear hno hgo
          rcases idx_cases (fun e : EvalD => e.job == j.id) s.evals with ⟨he, hef, _⟩ | ⟨ie, ev, he, hei, _, hef, _⟩
          · have HE := Lib.hid he
            have HBK := Lib.hid (show blockedB s.evals j.id = false by rw [blockedB, hef])
            have HR := Lib.hid (HNO.out (by rw [HREST.out, HBK.out, Bool.and_false]))
            clear he hef
            by_cases h3 : j.ty = 3
            · have hm1 := hmayF h3
              have HJT := Lib.hid h3
              clear h3
              subst hm1
              clear hmayF hbest
              cases ml with
              | true =>
                go_wp2_with (first | (refine wpList_load_at rfl 86 _ rfl STSlot fb (fo + t * 2) rfl #[.int .i64 (k : Int), .int .i64 xi] hcf rfl ?_) | (refine wpList_load_at rfl 35 _ rfl STRes gb (go + k * 3 + 1) rfl #[.int .i64 g.ask.cpu, .int .i64 g.ask.mem] hgf rfl ?_) | (refine wpList_load_blk rfl 29 _ rfl STStore w.heap.size rfl #[.int .i64 s.index, .int .i64 s.next, .slice s.AJ s.nJ s.cJ, .slice s.AS s.nS s.cS, .slice s.AN s.nN s.cN, .slice s.AA s.nA s.cA, .slice s.AE s.nE s.cE, .slice s.AD s.nD s.cD, .slice s.AX s.nX s.cX] (by first | exact hbw | exact hb4 | exact hb5) rfl ?_) | (refine wpList_load_blk rfl 35 _ rfl STRes (wr.heap.size + 1) rfl #[.int .i64 g.ask.cpu, .int .i64 g.ask.mem] (by first | exact hbR | exact hr4) rfl ?_) | (go_at_call 41; (with_reducible refine (may_any s.AN s.nN s.cN s.nodes s.AA s.nA s.cA s.allocs none 0 0 [] xi g.ask _ _ _ _ _ _ _ _ hsw.sN (by omega) hsw.sA (by omega) (Sl.nil _ _ _) (by omega)).mono ?_); rintro e w4 ⟨rfl, hx4⟩; rw [HML.out]; have hb4 := hbw.ext hx4 (fun e => e); have hr4 := hbR.ext hx4 (fun e => e); have hj4 := hjw.ext hx4 (fun e => e); have j0 : w4.cell? ⟨w.heap.size + 1, 0, none⟩ = some (.int .i64 j.id) := hj4.cell 0; have j1 : w4.cell? ⟨w.heap.size + 1, 1, none⟩ = some (.int .i64 3) := (by rw [← HJT.out]; exact hj4.cell 1)) | (go_at_call 43; (with_reducible refine (findEval s.AE s.nE s.cE s.evals j.id _ (hsw.ext0 hx4).sE (by omega) _ _ _ _ _ _ _ _ _ rfl).mono ?_); rintro e w6 ⟨rfl, hx6⟩; rw [HE.out]; have hx46 := hx4.trans hx6 (fun _ _ e => e); go_wp2))
                go_ret
                exact ⟨by rw [HFA.out.symm.trans HR.out]; first | rfl | (rw [Bool.and_false]; rfl), (hw2.trans hx (fun _ _ e => e)).trans (hxR.trans hx46 (fun _ _ e => e)) (fun _ _ e => e)⟩
              | false =>
                go_wp2_with (first | (refine wpList_load_at rfl 86 _ rfl STSlot fb (fo + t * 2) rfl #[.int .i64 (k : Int), .int .i64 xi] hcf rfl ?_) | (refine wpList_load_at rfl 35 _ rfl STRes gb (go + k * 3 + 1) rfl #[.int .i64 g.ask.cpu, .int .i64 g.ask.mem] hgf rfl ?_) | (refine wpList_load_blk rfl 29 _ rfl STStore w.heap.size rfl #[.int .i64 s.index, .int .i64 s.next, .slice s.AJ s.nJ s.cJ, .slice s.AS s.nS s.cS, .slice s.AN s.nN s.cN, .slice s.AA s.nA s.cA, .slice s.AE s.nE s.cE, .slice s.AD s.nD s.cD, .slice s.AX s.nX s.cX] (by first | exact hbw | exact hb4 | exact hb5) rfl ?_) | (refine wpList_load_blk rfl 35 _ rfl STRes (wr.heap.size + 1) rfl #[.int .i64 g.ask.cpu, .int .i64 g.ask.mem] (by first | exact hbR | exact hr4) rfl ?_) | (go_at_call 41; (with_reducible refine (may_any s.AN s.nN s.cN s.nodes s.AA s.nA s.cA s.allocs none 0 0 [] xi g.ask _ _ _ _ _ _ _ _ hsw.sN (by omega) hsw.sA (by omega) (Sl.nil _ _ _) (by omega)).mono ?_); rintro e w4 ⟨rfl, hx4⟩; rw [HML.out]; have hb4 := hbw.ext hx4 (fun e => e); have hr4 := hbR.ext hx4 (fun e => e); have hj4 := hjw.ext hx4 (fun e => e); have j0 : w4.cell? ⟨w.heap.size + 1, 0, none⟩ = some (.int .i64 j.id) := hj4.cell 0; have j1 : w4.cell? ⟨w.heap.size + 1, 1, none⟩ = some (.int .i64 3) := (by rw [← HJT.out]; exact hj4.cell 1)) | (go_at_call 43; (with_reducible refine (findEval s.AE s.nE s.cE s.evals j.id _ (hsw.ext0 hx4).sE (by omega) _ _ _ _ _ _ _ _ _ rfl).mono ?_); rintro e w6 ⟨rfl, hx6⟩; rw [HE.out]; have hx46 := hx4.trans hx6 (fun _ _ e => e); go_wp2))
                go_ret
                exact ⟨by rw [HFA.out.symm.trans HR.out]; first | rfl | (rw [Bool.and_false]; rfl), (hw2.trans hx (fun _ _ e => e)).trans (hxR.trans hx46 (fun _ _ e => e)) (fun _ _ e => e)⟩
            · have hm1 := hbest h3
              subst hm1
              clear hmayF hbest
              cases bl with
              | true =>
                go_wp2_with (first | (refine wpList_load_at rfl 86 _ rfl STSlot fb (fo + t * 2) rfl #[.int .i64 (k : Int), .int .i64 xi] hcf rfl ?_) | (refine wpList_load_at rfl 35 _ rfl STRes gb (go + k * 3 + 1) rfl #[.int .i64 g.ask.cpu, .int .i64 g.ask.mem] hgf rfl ?_) | (refine wpList_load_blk rfl 29 _ rfl STStore w.heap.size rfl #[.int .i64 s.index, .int .i64 s.next, .slice s.AJ s.nJ s.cJ, .slice s.AS s.nS s.cS, .slice s.AN s.nN s.cN, .slice s.AA s.nA s.cA, .slice s.AE s.nE s.cE, .slice s.AD s.nD s.cD, .slice s.AX s.nX s.cX] (by first | exact hbw | exact hb4 | exact hb5) rfl ?_) | (refine wpList_load_blk rfl 35 _ rfl STRes (wr.heap.size + 1) rfl #[.int .i64 g.ask.cpu, .int .i64 g.ask.mem] (by first | exact hbR | exact hr4) rfl ?_) | (go_at_call 41; (with_reducible refine (may_any s.AN s.nN s.cN s.nodes s.AA s.nA s.cA s.allocs none 0 0 [] xi g.ask _ _ _ _ _ _ _ _ hsw.sN (by omega) hsw.sA (by omega) (Sl.nil _ _ _) (by omega)).mono ?_); rintro e w4 ⟨rfl, hx4⟩; rw [HML.out]; have hb4 := hbw.ext hx4 (fun e => e); have hr4 := hbR.ext hx4 (fun e => e); have hj4 := hjw.ext hx4 (fun e => e); have j0 : w4.cell? ⟨w.heap.size + 1, 0, none⟩ = some (.int .i64 j.id) := hj4.cell 0; have j1 : w4.cell? ⟨w.heap.size + 1, 1, none⟩ = some (.int .i64 j.ty) := hj4.cell 1) | (go_at_call 42; (with_reducible refine (best_any s.AN s.nN s.cN s.nodes s.AA s.nA s.cA s.allocs none 0 0 [] g.ask _ _ _ _ _ _ _ _ (hsw.ext0 hx4).sN (by omega) (hsw.ext0 hx4).sA (by omega) (Sl.nil _ _ _) (by omega)).mono ?_); rintro e w5 ⟨rfl, hx5⟩; rw [HBL.out]; have hx45 := hx4.trans hx5 (fun _ _ e => e); have hb5 := hbw.ext hx45 (fun e => e); have j05 : w5.cell? ⟨w.heap.size + 1, 0, none⟩ = some (.int .i64 j.id) := (hjw.ext hx45 (fun e => e)).cell 0) | (go_at_call 43; (with_reducible refine (findEval s.AE s.nE s.cE s.evals j.id _ (hsw.ext0 hx45).sE (by omega) _ _ _ _ _ _ _ _ _ rfl).mono ?_); rintro e w6 ⟨rfl, hx6⟩; rw [HE.out]; have hx46 := hx45.trans hx6 (fun _ _ e => e); go_wp2))
                go_ret
                exact ⟨by rw [HFA.out.symm.trans HR.out]; first | rfl | (rw [Bool.and_false]; rfl), (hw2.trans hx (fun _ _ e => e)).trans (hxR.trans hx46 (fun _ _ e => e)) (fun _ _ e => e)⟩
              | false =>
                go_wp2_with (first | (refine wpList_load_at rfl 86 _ rfl STSlot fb (fo + t * 2) rfl #[.int .i64 (k : Int), .int .i64 xi] hcf rfl ?_) | (refine wpList_load_at rfl 35 _ rfl STRes gb (go + k * 3 + 1) rfl #[.int .i64 g.ask.cpu, .int .i64 g.ask.mem] hgf rfl ?_) | (refine wpList_load_blk rfl 29 _ rfl STStore w.heap.size rfl #[.int .i64 s.index, .int .i64 s.next, .slice s.AJ s.nJ s.cJ, .slice s.AS s.nS s.cS, .slice s.AN s.nN s.cN, .slice s.AA s.nA s.cA, .slice s.AE s.nE s.cE, .slice s.AD s.nD s.cD, .slice s.AX s.nX s.cX] (by first | exact hbw | exact hb4 | exact hb5) rfl ?_) | (refine wpList_load_blk rfl 35 _ rfl STRes (wr.heap.size + 1) rfl #[.int .i64 g.ask.cpu, .int .i64 g.ask.mem] (by first | exact hbR | exact hr4) rfl ?_) | (go_at_call 41; (with_reducible refine (may_any s.AN s.nN s.cN s.nodes s.AA s.nA s.cA s.allocs none 0 0 [] xi g.ask _ _ _ _ _ _ _ _ hsw.sN (by omega) hsw.sA (by omega) (Sl.nil _ _ _) (by omega)).mono ?_); rintro e w4 ⟨rfl, hx4⟩; rw [HML.out]; have hb4 := hbw.ext hx4 (fun e => e); have hr4 := hbR.ext hx4 (fun e => e); have hj4 := hjw.ext hx4 (fun e => e); have j0 : w4.cell? ⟨w.heap.size + 1, 0, none⟩ = some (.int .i64 j.id) := hj4.cell 0; have j1 : w4.cell? ⟨w.heap.size + 1, 1, none⟩ = some (.int .i64 j.ty) := hj4.cell 1) | (go_at_call 42; (with_reducible refine (best_any s.AN s.nN s.cN s.nodes s.AA s.nA s.cA s.allocs none 0 0 [] g.ask _ _ _ _ _ _ _ _ (hsw.ext0 hx4).sN (by omega) (hsw.ext0 hx4).sA (by omega) (Sl.nil _ _ _) (by omega)).mono ?_); rintro e w5 ⟨rfl, hx5⟩; rw [HBL.out]; have hx45 := hx4.trans hx5 (fun _ _ e => e); have hb5 := hbw.ext hx45 (fun e => e); have j05 : w5.cell? ⟨w.heap.size + 1, 0, none⟩ = some (.int .i64 j.id) := (hjw.ext hx45 (fun e => e)).cell 0) | (go_at_call 43; (with_reducible refine (findEval s.AE s.nE s.cE s.evals j.id _ (hsw.ext0 hx45).sE (by omega) _ _ _ _ _ _ _ _ _ rfl).mono ?_); rintro e w6 ⟨rfl, hx6⟩; rw [HE.out]; have hx46 := hx45.trans hx6 (fun _ _ e => e); go_wp2))
                go_ret
                exact ⟨by rw [HFA.out.symm.trans HR.out]; first | rfl | (rw [Bool.and_false]; rfl), (hw2.trans hx (fun _ _ e => e)).trans (hxR.trans hx46 (fun _ _ e => e)) (fun _ _ e => e)⟩
          · have HE := Lib.hid he
            obtain ⟨hil, hei'⟩ := List.getElem?_eq_some_iff.1 hei
            have hin : ie < s.nE := by have := hsw.sE.len; omega
            have hi0 : (0 : Int) ≤ (ie : Int) := by omega
            have hi1 : (ie : Int) < s.nE := by omega
            have hi2 : ¬ ((ie : Int) < 0) := by omega
            obtain ⟨_, eb, eo, hEe, hee⟩ := hsw.sE.get (Ext.refl _ _) hin
            rw [hei'] at hee
            have HEE := Lib.hid hEe
            clear hEe hei' hei
            have hi3 : decide ((ie : Int) < 0) = false := by simp [hi2]
            cases hst : (ev.state == 2) with
            | false =>
              have hst2 : (ev.state != 2) = true := by simp [bne, hst]
              have HBK := Lib.hid (show blockedB s.evals j.id = false by rw [blockedB, hef]; exact hst)
              have HR := Lib.hid (HNO.out (by rw [HREST.out, HBK.out, Bool.and_false]))
              clear he hef
              by_cases h3 : j.ty = 3
              · have hm1 := hmayF h3
                have HJT := Lib.hid h3
                clear h3
                subst hm1
                clear hmayF hbest
                cases ml with
                | true =>
                  go_wp2_with (first | (refine wpList_load_at rfl 86 _ rfl STSlot fb (fo + t * 2) rfl #[.int .i64 (k : Int), .int .i64 xi] hcf rfl ?_) | (refine wpList_load_at rfl 35 _ rfl STRes gb (go + k * 3 + 1) rfl #[.int .i64 g.ask.cpu, .int .i64 g.ask.mem] hgf rfl ?_) | (refine wpList_load_blk rfl 29 _ rfl STStore w.heap.size rfl #[.int .i64 s.index, .int .i64 s.next, .slice s.AJ s.nJ s.cJ, .slice s.AS s.nS s.cS, .slice s.AN s.nN s.cN, .slice s.AA s.nA s.cA, .slice s.AE s.nE s.cE, .slice s.AD s.nD s.cD, .slice s.AX s.nX s.cX] (by first | exact hbw | exact hb4 | exact hb5) rfl ?_) | (refine wpList_load_blk rfl 35 _ rfl STRes (wr.heap.size + 1) rfl #[.int .i64 g.ask.cpu, .int .i64 g.ask.mem] (by first | exact hbR | exact hr4) rfl ?_) | (go_at_call 41; (with_reducible refine (may_any s.AN s.nN s.cN s.nodes s.AA s.nA s.cA s.allocs none 0 0 [] xi g.ask _ _ _ _ _ _ _ _ hsw.sN (by omega) hsw.sA (by omega) (Sl.nil _ _ _) (by omega)).mono ?_); rintro e w4 ⟨rfl, hx4⟩; rw [HML.out]; have hb4 := hbw.ext hx4 (fun e => e); have hr4 := hbR.ext hx4 (fun e => e); have hj4 := hjw.ext hx4 (fun e => e); have j0 : w4.cell? ⟨w.heap.size + 1, 0, none⟩ = some (.int .i64 j.id) := hj4.cell 0; have j1 : w4.cell? ⟨w.heap.size + 1, 1, none⟩ = some (.int .i64 3) := (by rw [← HJT.out]; exact hj4.cell 1)) | (go_at_call 43; (with_reducible refine (findEval s.AE s.nE s.cE s.evals j.id _ (hsw.ext0 hx4).sE (by omega) _ _ _ _ _ _ _ _ _ rfl).mono ?_); rintro e w6 ⟨rfl, hx6⟩; rw [HE.out]; have hx46 := hx4.trans hx6 (fun _ _ e => e); have e6 : w6.cell? ⟨w.heap.size, 6, none⟩ = some (.slice (some ⟨eb, eo, none⟩) s.nE s.cE) := (by rw [← HEE.out]; exact (hbw.ext hx46 (fun e => e)).cell 6); have s2 : w6.cell? ⟨eb, eo + ie * 4 + 2, none⟩ = some (.int .i64 ev.state) := hx46.cell (hee 2 _ rfl) (fun e => e); go_wp2))
                  go_ret
                  exact ⟨by rw [HFA.out.symm.trans HR.out]; first | rfl | (rw [Bool.and_false]; rfl), (hw2.trans hx (fun _ _ e => e)).trans (hxR.trans hx46 (fun _ _ e => e)) (fun _ _ e => e)⟩
                | false =>
                  go_wp2_with (first | (refine wpList_load_at rfl 86 _ rfl STSlot fb (fo + t * 2) rfl #[.int .i64 (k : Int), .int .i64 xi] hcf rfl ?_) | (refine wpList_load_at rfl 35 _ rfl STRes gb (go + k * 3 + 1) rfl #[.int .i64 g.ask.cpu, .int .i64 g.ask.mem] hgf rfl ?_) | (refine wpList_load_blk rfl 29 _ rfl STStore w.heap.size rfl #[.int .i64 s.index, .int .i64 s.next, .slice s.AJ s.nJ s.cJ, .slice s.AS s.nS s.cS, .slice s.AN s.nN s.cN, .slice s.AA s.nA s.cA, .slice s.AE s.nE s.cE, .slice s.AD s.nD s.cD, .slice s.AX s.nX s.cX] (by first | exact hbw | exact hb4 | exact hb5) rfl ?_) | (refine wpList_load_blk rfl 35 _ rfl STRes (wr.heap.size + 1) rfl #[.int .i64 g.ask.cpu, .int .i64 g.ask.mem] (by first | exact hbR | exact hr4) rfl ?_) | (go_at_call 41; (with_reducible refine (may_any s.AN s.nN s.cN s.nodes s.AA s.nA s.cA s.allocs none 0 0 [] xi g.ask _ _ _ _ _ _ _ _ hsw.sN (by omega) hsw.sA (by omega) (Sl.nil _ _ _) (by omega)).mono ?_); rintro e w4 ⟨rfl, hx4⟩; rw [HML.out]; have hb4 := hbw.ext hx4 (fun e => e); have hr4 := hbR.ext hx4 (fun e => e); have hj4 := hjw.ext hx4 (fun e => e); have j0 : w4.cell? ⟨w.heap.size + 1, 0, none⟩ = some (.int .i64 j.id) := hj4.cell 0; have j1 : w4.cell? ⟨w.heap.size + 1, 1, none⟩ = some (.int .i64 3) := (by rw [← HJT.out]; exact hj4.cell 1)) | (go_at_call 43; (with_reducible refine (findEval s.AE s.nE s.cE s.evals j.id _ (hsw.ext0 hx4).sE (by omega) _ _ _ _ _ _ _ _ _ rfl).mono ?_); rintro e w6 ⟨rfl, hx6⟩; rw [HE.out]; have hx46 := hx4.trans hx6 (fun _ _ e => e); have e6 : w6.cell? ⟨w.heap.size, 6, none⟩ = some (.slice (some ⟨eb, eo, none⟩) s.nE s.cE) := (by rw [← HEE.out]; exact (hbw.ext hx46 (fun e => e)).cell 6); have s2 : w6.cell? ⟨eb, eo + ie * 4 + 2, none⟩ = some (.int .i64 ev.state) := hx46.cell (hee 2 _ rfl) (fun e => e); go_wp2))
                  go_ret
                  exact ⟨by rw [HFA.out.symm.trans HR.out]; first | rfl | (rw [Bool.and_false]; rfl), (hw2.trans hx (fun _ _ e => e)).trans (hxR.trans hx46 (fun _ _ e => e)) (fun _ _ e => e)⟩
              · have hm1 := hbest h3
                subst hm1
                clear hmayF hbest
                cases bl with
                | true =>
                  go_wp2_with (first | (refine wpList_load_at rfl 86 _ rfl STSlot fb (fo + t * 2) rfl #[.int .i64 (k : Int), .int .i64 xi] hcf rfl ?_) | (refine wpList_load_at rfl 35 _ rfl STRes gb (go + k * 3 + 1) rfl #[.int .i64 g.ask.cpu, .int .i64 g.ask.mem] hgf rfl ?_) | (refine wpList_load_blk rfl 29 _ rfl STStore w.heap.size rfl #[.int .i64 s.index, .int .i64 s.next, .slice s.AJ s.nJ s.cJ, .slice s.AS s.nS s.cS, .slice s.AN s.nN s.cN, .slice s.AA s.nA s.cA, .slice s.AE s.nE s.cE, .slice s.AD s.nD s.cD, .slice s.AX s.nX s.cX] (by first | exact hbw | exact hb4 | exact hb5) rfl ?_) | (refine wpList_load_blk rfl 35 _ rfl STRes (wr.heap.size + 1) rfl #[.int .i64 g.ask.cpu, .int .i64 g.ask.mem] (by first | exact hbR | exact hr4) rfl ?_) | (go_at_call 41; (with_reducible refine (may_any s.AN s.nN s.cN s.nodes s.AA s.nA s.cA s.allocs none 0 0 [] xi g.ask _ _ _ _ _ _ _ _ hsw.sN (by omega) hsw.sA (by omega) (Sl.nil _ _ _) (by omega)).mono ?_); rintro e w4 ⟨rfl, hx4⟩; rw [HML.out]; have hb4 := hbw.ext hx4 (fun e => e); have hr4 := hbR.ext hx4 (fun e => e); have hj4 := hjw.ext hx4 (fun e => e); have j0 : w4.cell? ⟨w.heap.size + 1, 0, none⟩ = some (.int .i64 j.id) := hj4.cell 0; have j1 : w4.cell? ⟨w.heap.size + 1, 1, none⟩ = some (.int .i64 j.ty) := hj4.cell 1) | (go_at_call 42; (with_reducible refine (best_any s.AN s.nN s.cN s.nodes s.AA s.nA s.cA s.allocs none 0 0 [] g.ask _ _ _ _ _ _ _ _ (hsw.ext0 hx4).sN (by omega) (hsw.ext0 hx4).sA (by omega) (Sl.nil _ _ _) (by omega)).mono ?_); rintro e w5 ⟨rfl, hx5⟩; rw [HBL.out]; have hx45 := hx4.trans hx5 (fun _ _ e => e); have hb5 := hbw.ext hx45 (fun e => e); have j05 : w5.cell? ⟨w.heap.size + 1, 0, none⟩ = some (.int .i64 j.id) := (hjw.ext hx45 (fun e => e)).cell 0) | (go_at_call 43; (with_reducible refine (findEval s.AE s.nE s.cE s.evals j.id _ (hsw.ext0 hx45).sE (by omega) _ _ _ _ _ _ _ _ _ rfl).mono ?_); rintro e w6 ⟨rfl, hx6⟩; rw [HE.out]; have hx46 := hx45.trans hx6 (fun _ _ e => e); have e6 : w6.cell? ⟨w.heap.size, 6, none⟩ = some (.slice (some ⟨eb, eo, none⟩) s.nE s.cE) := (by rw [← HEE.out]; exact (hbw.ext hx46 (fun e => e)).cell 6); have s2 : w6.cell? ⟨eb, eo + ie * 4 + 2, none⟩ = some (.int .i64 ev.state) := hx46.cell (hee 2 _ rfl) (fun e => e); go_wp2))
                  go_ret
                  exact ⟨by rw [HFA.out.symm.trans HR.out]; first | rfl | (rw [Bool.and_false]; rfl), (hw2.trans hx (fun _ _ e => e)).trans (hxR.trans hx46 (fun _ _ e => e)) (fun _ _ e => e)⟩
                | false =>
                  go_wp2_with (first | (refine wpList_load_at rfl 86 _ rfl STSlot fb (fo + t * 2) rfl #[.int .i64 (k : Int), .int .i64 xi] hcf rfl ?_) | (refine wpList_load_at rfl 35 _ rfl STRes gb (go + k * 3 + 1) rfl #[.int .i64 g.ask.cpu, .int .i64 g.ask.mem] hgf rfl ?_) | (refine wpList_load_blk rfl 29 _ rfl STStore w.heap.size rfl #[.int .i64 s.index, .int .i64 s.next, .slice s.AJ s.nJ s.cJ, .slice s.AS s.nS s.cS, .slice s.AN s.nN s.cN, .slice s.AA s.nA s.cA, .slice s.AE s.nE s.cE, .slice s.AD s.nD s.cD, .slice s.AX s.nX s.cX] (by first | exact hbw | exact hb4 | exact hb5) rfl ?_) | (refine wpList_load_blk rfl 35 _ rfl STRes (wr.heap.size + 1) rfl #[.int .i64 g.ask.cpu, .int .i64 g.ask.mem] (by first | exact hbR | exact hr4) rfl ?_) | (go_at_call 41; (with_reducible refine (may_any s.AN s.nN s.cN s.nodes s.AA s.nA s.cA s.allocs none 0 0 [] xi g.ask _ _ _ _ _ _ _ _ hsw.sN (by omega) hsw.sA (by omega) (Sl.nil _ _ _) (by omega)).mono ?_); rintro e w4 ⟨rfl, hx4⟩; rw [HML.out]; have hb4 := hbw.ext hx4 (fun e => e); have hr4 := hbR.ext hx4 (fun e => e); have hj4 := hjw.ext hx4 (fun e => e); have j0 : w4.cell? ⟨w.heap.size + 1, 0, none⟩ = some (.int .i64 j.id) := hj4.cell 0; have j1 : w4.cell? ⟨w.heap.size + 1, 1, none⟩ = some (.int .i64 j.ty) := hj4.cell 1) | (go_at_call 42; (with_reducible refine (best_any s.AN s.nN s.cN s.nodes s.AA s.nA s.cA s.allocs none 0 0 [] g.ask _ _ _ _ _ _ _ _ (hsw.ext0 hx4).sN (by omega) (hsw.ext0 hx4).sA (by omega) (Sl.nil _ _ _) (by omega)).mono ?_); rintro e w5 ⟨rfl, hx5⟩; rw [HBL.out]; have hx45 := hx4.trans hx5 (fun _ _ e => e); have hb5 := hbw.ext hx45 (fun e => e); have j05 : w5.cell? ⟨w.heap.size + 1, 0, none⟩ = some (.int .i64 j.id) := (hjw.ext hx45 (fun e => e)).cell 0) | (go_at_call 43; (with_reducible refine (findEval s.AE s.nE s.cE s.evals j.id _ (hsw.ext0 hx45).sE (by omega) _ _ _ _ _ _ _ _ _ rfl).mono ?_); rintro e w6 ⟨rfl, hx6⟩; rw [HE.out]; have hx46 := hx45.trans hx6 (fun _ _ e => e); have e6 : w6.cell? ⟨w.heap.size, 6, none⟩ = some (.slice (some ⟨eb, eo, none⟩) s.nE s.cE) := (by rw [← HEE.out]; exact (hbw.ext hx46 (fun e => e)).cell 6); have s2 : w6.cell? ⟨eb, eo + ie * 4 + 2, none⟩ = some (.int .i64 ev.state) := hx46.cell (hee 2 _ rfl) (fun e => e); go_wp2))
                  go_ret
                  exact ⟨by rw [HFA.out.symm.trans HR.out]; first | rfl | (rw [Bool.and_false]; rfl), (hw2.trans hx (fun _ _ e => e)).trans (hxR.trans hx46 (fun _ _ e => e)) (fun _ _ e => e)⟩
            | true =>
              have hst2 : (ev.state != 2) = false := by simp [bne, hst]
              have HBK := Lib.hid (show blockedB s.evals j.id = true by rw [blockedB, hef]; exact hst)
              clear he hef
              by_cases h3 : j.ty = 3
              · have hm1 := hmayF h3
                have HJT := Lib.hid h3
                clear h3
                subst hm1
                clear hmayF hbest
                cases ml with
                | true =>
                  have HR := Lib.hid (HNO.out (by rw [HREST.out]; rfl))
                  go_wp2_with (first | (refine wpList_load_at rfl 86 _ rfl STSlot fb (fo + t * 2) rfl #[.int .i64 (k : Int), .int .i64 xi] hcf rfl ?_) | (refine wpList_load_at rfl 35 _ rfl STRes gb (go + k * 3 + 1) rfl #[.int .i64 g.ask.cpu, .int .i64 g.ask.mem] hgf rfl ?_) | (refine wpList_load_blk rfl 29 _ rfl STStore w.heap.size rfl #[.int .i64 s.index, .int .i64 s.next, .slice s.AJ s.nJ s.cJ, .slice s.AS s.nS s.cS, .slice s.AN s.nN s.cN, .slice s.AA s.nA s.cA, .slice s.AE s.nE s.cE, .slice s.AD s.nD s.cD, .slice s.AX s.nX s.cX] (by first | exact hbw | exact hb4 | exact hb5) rfl ?_) | (refine wpList_load_blk rfl 35 _ rfl STRes (wr.heap.size + 1) rfl #[.int .i64 g.ask.cpu, .int .i64 g.ask.mem] (by first | exact hbR | exact hr4) rfl ?_) | (go_at_call 41; (with_reducible refine (may_any s.AN s.nN s.cN s.nodes s.AA s.nA s.cA s.allocs none 0 0 [] xi g.ask _ _ _ _ _ _ _ _ hsw.sN (by omega) hsw.sA (by omega) (Sl.nil _ _ _) (by omega)).mono ?_); rintro e w4 ⟨rfl, hx4⟩; rw [HML.out]; have hb4 := hbw.ext hx4 (fun e => e); have hr4 := hbR.ext hx4 (fun e => e); have hj4 := hjw.ext hx4 (fun e => e); have j0 : w4.cell? ⟨w.heap.size + 1, 0, none⟩ = some (.int .i64 j.id) := hj4.cell 0; have j1 : w4.cell? ⟨w.heap.size + 1, 1, none⟩ = some (.int .i64 3) := (by rw [← HJT.out]; exact hj4.cell 1)) | (go_at_call 43; (with_reducible refine (findEval s.AE s.nE s.cE s.evals j.id _ (hsw.ext0 hx4).sE (by omega) _ _ _ _ _ _ _ _ _ rfl).mono ?_); rintro e w6 ⟨rfl, hx6⟩; rw [HE.out]; have hx46 := hx4.trans hx6 (fun _ _ e => e); have e6 : w6.cell? ⟨w.heap.size, 6, none⟩ = some (.slice (some ⟨eb, eo, none⟩) s.nE s.cE) := (by rw [← HEE.out]; exact (hbw.ext hx46 (fun e => e)).cell 6); have s2 : w6.cell? ⟨eb, eo + ie * 4 + 2, none⟩ = some (.int .i64 ev.state) := hx46.cell (hee 2 _ rfl) (fun e => e); go_wp2))
                  go_ret
                  exact ⟨by rw [HFA.out.symm.trans HR.out]; first | rfl | (rw [Bool.and_false]; rfl), (hw2.trans hx (fun _ _ e => e)).trans (hxR.trans hx46 (fun _ _ e => e)) (fun _ _ e => e)⟩
                | false =>
                  have HR := Lib.hid (HGO.out (by rw [HREST.out, HBK.out]; rfl))
                  go_wp2_with (first | (refine wpList_load_at rfl 86 _ rfl STSlot fb (fo + t * 2) rfl #[.int .i64 (k : Int), .int .i64 xi] hcf rfl ?_) | (refine wpList_load_at rfl 35 _ rfl STRes gb (go + k * 3 + 1) rfl #[.int .i64 g.ask.cpu, .int .i64 g.ask.mem] hgf rfl ?_) | (refine wpList_load_blk rfl 29 _ rfl STStore w.heap.size rfl #[.int .i64 s.index, .int .i64 s.next, .slice s.AJ s.nJ s.cJ, .slice s.AS s.nS s.cS, .slice s.AN s.nN s.cN, .slice s.AA s.nA s.cA, .slice s.AE s.nE s.cE, .slice s.AD s.nD s.cD, .slice s.AX s.nX s.cX] (by first | exact hbw | exact hb4 | exact hb5) rfl ?_) | (refine wpList_load_blk rfl 35 _ rfl STRes (wr.heap.size + 1) rfl #[.int .i64 g.ask.cpu, .int .i64 g.ask.mem] (by first | exact hbR | exact hr4) rfl ?_) | (go_at_call 41; (with_reducible refine (may_any s.AN s.nN s.cN s.nodes s.AA s.nA s.cA s.allocs none 0 0 [] xi g.ask _ _ _ _ _ _ _ _ hsw.sN (by omega) hsw.sA (by omega) (Sl.nil _ _ _) (by omega)).mono ?_); rintro e w4 ⟨rfl, hx4⟩; rw [HML.out]; have hb4 := hbw.ext hx4 (fun e => e); have hr4 := hbR.ext hx4 (fun e => e); have hj4 := hjw.ext hx4 (fun e => e); have j0 : w4.cell? ⟨w.heap.size + 1, 0, none⟩ = some (.int .i64 j.id) := hj4.cell 0; have j1 : w4.cell? ⟨w.heap.size + 1, 1, none⟩ = some (.int .i64 3) := (by rw [← HJT.out]; exact hj4.cell 1)) | (go_at_call 43; (with_reducible refine (findEval s.AE s.nE s.cE s.evals j.id _ (hsw.ext0 hx4).sE (by omega) _ _ _ _ _ _ _ _ _ rfl).mono ?_); rintro e w6 ⟨rfl, hx6⟩; rw [HE.out]; have hx46 := hx4.trans hx6 (fun _ _ e => e); have e6 : w6.cell? ⟨w.heap.size, 6, none⟩ = some (.slice (some ⟨eb, eo, none⟩) s.nE s.cE) := (by rw [← HEE.out]; exact (hbw.ext hx46 (fun e => e)).cell 6); have s2 : w6.cell? ⟨eb, eo + ie * 4 + 2, none⟩ = some (.int .i64 ev.state) := hx46.cell (hee 2 _ rfl) (fun e => e)))
                  go_roundw
                  case rel => exact ⟨t + 1, by omega, by go_num, hx.trans (hxR.trans hx46 (fun _ _ e => e)) (fun _ _ e => e), HR.out⟩
                  case measure => simp [intOf]; omega
              · have hm1 := hbest h3
                subst hm1
                clear hmayF hbest
                cases bl with
                | true =>
                  have HR := Lib.hid (HNO.out (by rw [HREST.out]; rfl))
                  go_wp2_with (first | (refine wpList_load_at rfl 86 _ rfl STSlot fb (fo + t * 2) rfl #[.int .i64 (k : Int), .int .i64 xi] hcf rfl ?_) | (refine wpList_load_at rfl 35 _ rfl STRes gb (go + k * 3 + 1) rfl #[.int .i64 g.ask.cpu, .int .i64 g.ask.mem] hgf rfl ?_) | (refine wpList_load_blk rfl 29 _ rfl STStore w.heap.size rfl #[.int .i64 s.index, .int .i64 s.next, .slice s.AJ s.nJ s.cJ, .slice s.AS s.nS s.cS, .slice s.AN s.nN s.cN, .slice s.AA s.nA s.cA, .slice s.AE s.nE s.cE, .slice s.AD s.nD s.cD, .slice s.AX s.nX s.cX] (by first | exact hbw | exact hb4 | exact hb5) rfl ?_) | (refine wpList_load_blk rfl 35 _ rfl STRes (wr.heap.size + 1) rfl #[.int .i64 g.ask.cpu, .int .i64 g.ask.mem] (by first | exact hbR | exact hr4) rfl ?_) | (go_at_call 41; (with_reducible refine (may_any s.AN s.nN s.cN s.nodes s.AA s.nA s.cA s.allocs none 0 0 [] xi g.ask _ _ _ _ _ _ _ _ hsw.sN (by omega) hsw.sA (by omega) (Sl.nil _ _ _) (by omega)).mono ?_); rintro e w4 ⟨rfl, hx4⟩; rw [HML.out]; have hb4 := hbw.ext hx4 (fun e => e); have hr4 := hbR.ext hx4 (fun e => e); have hj4 := hjw.ext hx4 (fun e => e); have j0 : w4.cell? ⟨w.heap.size + 1, 0, none⟩ = some (.int .i64 j.id) := hj4.cell 0; have j1 : w4.cell? ⟨w.heap.size + 1, 1, none⟩ = some (.int .i64 j.ty) := hj4.cell 1) | (go_at_call 42; (with_reducible refine (best_any s.AN s.nN s.cN s.nodes s.AA s.nA s.cA s.allocs none 0 0 [] g.ask _ _ _ _ _ _ _ _ (hsw.ext0 hx4).sN (by omega) (hsw.ext0 hx4).sA (by omega) (Sl.nil _ _ _) (by omega)).mono ?_); rintro e w5 ⟨rfl, hx5⟩; rw [HBL.out]; have hx45 := hx4.trans hx5 (fun _ _ e => e); have hb5 := hbw.ext hx45 (fun e => e); have j05 : w5.cell? ⟨w.heap.size + 1, 0, none⟩ = some (.int .i64 j.id) := (hjw.ext hx45 (fun e => e)).cell 0) | (go_at_call 43; (with_reducible refine (findEval s.AE s.nE s.cE s.evals j.id _ (hsw.ext0 hx45).sE (by omega) _ _ _ _ _ _ _ _ _ rfl).mono ?_); rintro e w6 ⟨rfl, hx6⟩; rw [HE.out]; have hx46 := hx45.trans hx6 (fun _ _ e => e); have e6 : w6.cell? ⟨w.heap.size, 6, none⟩ = some (.slice (some ⟨eb, eo, none⟩) s.nE s.cE) := (by rw [← HEE.out]; exact (hbw.ext hx46 (fun e => e)).cell 6); have s2 : w6.cell? ⟨eb, eo + ie * 4 + 2, none⟩ = some (.int .i64 ev.state) := hx46.cell (hee 2 _ rfl) (fun e => e); go_wp2))
                  go_ret
                  exact ⟨by rw [HFA.out.symm.trans HR.out]; first | rfl | (rw [Bool.and_false]; rfl), (hw2.trans hx (fun _ _ e => e)).trans (hxR.trans hx46 (fun _ _ e => e)) (fun _ _ e => e)⟩
                | false =>
                  have HR := Lib.hid (HGO.out (by rw [HREST.out, HBK.out]; rfl))
                  go_wp2_with (first | (refine wpList_load_at rfl 86 _ rfl STSlot fb (fo + t * 2) rfl #[.int .i64 (k : Int), .int .i64 xi] hcf rfl ?_) | (refine wpList_load_at rfl 35 _ rfl STRes gb (go + k * 3 + 1) rfl #[.int .i64 g.ask.cpu, .int .i64 g.ask.mem] hgf rfl ?_) | (refine wpList_load_blk rfl 29 _ rfl STStore w.heap.size rfl #[.int .i64 s.index, .int .i64 s.next, .slice s.AJ s.nJ s.cJ, .slice s.AS s.nS s.cS, .slice s.AN s.nN s.cN, .slice s.AA s.nA s.cA, .slice s.AE s.nE s.cE, .slice s.AD s.nD s.cD, .slice s.AX s.nX s.cX] (by first | exact hbw | exact hb4 | exact hb5) rfl ?_) | (refine wpList_load_blk rfl 35 _ rfl STRes (wr.heap.size + 1) rfl #[.int .i64 g.ask.cpu, .int .i64 g.ask.mem] (by first | exact hbR | exact hr4) rfl ?_) | (go_at_call 41; (with_reducible refine (may_any s.AN s.nN s.cN s.nodes s.AA s.nA s.cA s.allocs none 0 0 [] xi g.ask _ _ _ _ _ _ _ _ hsw.sN (by omega) hsw.sA (by omega) (Sl.nil _ _ _) (by omega)).mono ?_); rintro e w4 ⟨rfl, hx4⟩; rw [HML.out]; have hb4 := hbw.ext hx4 (fun e => e); have hr4 := hbR.ext hx4 (fun e => e); have hj4 := hjw.ext hx4 (fun e => e); have j0 : w4.cell? ⟨w.heap.size + 1, 0, none⟩ = some (.int .i64 j.id) := hj4.cell 0; have j1 : w4.cell? ⟨w.heap.size + 1, 1, none⟩ = some (.int .i64 j.ty) := hj4.cell 1) | (go_at_call 42; (with_reducible refine (best_any s.AN s.nN s.cN s.nodes s.AA s.nA s.cA s.allocs none 0 0 [] g.ask _ _ _ _ _ _ _ _ (hsw.ext0 hx4).sN (by omega) (hsw.ext0 hx4).sA (by omega) (Sl.nil _ _ _) (by omega)).mono ?_); rintro e w5 ⟨rfl, hx5⟩; rw [HBL.out]; have hx45 := hx4.trans hx5 (fun _ _ e => e); have hb5 := hbw.ext hx45 (fun e => e); have j05 : w5.cell? ⟨w.heap.size + 1, 0, none⟩ = some (.int .i64 j.id) := (hjw.ext hx45 (fun e => e)).cell 0) | (go_at_call 43; (with_reducible refine (findEval s.AE s.nE s.cE s.evals j.id _ (hsw.ext0 hx45).sE (by omega) _ _ _ _ _ _ _ _ _ rfl).mono ?_); rintro e w6 ⟨rfl, hx6⟩; rw [HE.out]; have hx46 := hx45.trans hx6 (fun _ _ e => e); have e6 : w6.cell? ⟨w.heap.size, 6, none⟩ = some (.slice (some ⟨eb, eo, none⟩) s.nE s.cE) := (by rw [← HEE.out]; exact (hbw.ext hx46 (fun e => e)).cell 6); have s2 : w6.cell? ⟨eb, eo + ie * 4 + 2, none⟩ = some (.int .i64 ev.state) := hx46.cell (hee 2 _ rfl) (fun e => e)))
                  go_roundw
                  case rel => exact ⟨t + 1, by omega, by go_num, hx.trans (hxR.trans hx46 (fun _ _ e => e)) (fun _ _ e => e), HR.out⟩
                  case measure => simp [intOf]; omega
        · have HR := Lib.hid (all_yes (p := restB s.nodes s.allocs s.evals j) (l := fill) (fun i hi => hall i hi (by omega)))
          go_wp2
          go_ret
          exact ⟨by rw [HFA.out.symm.trans HR.out]; rfl, hw2.trans hx (fun _ _ e => e)⟩

end Go.Proofs.YtfmkoemogicdkaaGreat