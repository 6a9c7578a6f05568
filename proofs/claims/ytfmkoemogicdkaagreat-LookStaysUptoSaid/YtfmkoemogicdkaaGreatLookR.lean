/- Room: whether no node is filled beyond its capacity. (printed by wip/gen/look.py) -/
import Derived.Test.YtfmkoemogicdkaaGreatUsed
import Derived.Test.YtfmkoemogicdkaaGreatSchedR
import Derived.Test.YtfmkoemogicdkaaGreatDone
namespace Go.Proofs.YtfmkoemogicdkaaGreat
set_option linter.unusedVariables false
open Go.RowKit

def roomB (l : List AllocD) (x : NodD) : Bool := decide ((usedS l x.id).cpu > x.cap.cpu) || decide ((usedS l x.id).mem > x.cap.mem)
set_option maxHeartbeats 1000000 in
theorem isRoom (x : NodD) (bs : Nat) (s : StoreV) (w : World) (h : s.Ok w) (hb : Blk w bs 29 #[.int .i64 s.index, .int .i64 s.next, .slice s.AJ s.nJ s.cJ, .slice s.AS s.nS s.cS, .slice s.AN s.nN s.cN, .slice s.AA s.nA s.cA, .slice s.AE s.nE s.cE, .slice s.AD s.nD s.cD, .slice s.AX s.nX s.cX]) :
    Calls Tryz.prog 15 #[.agg (NodD.cells x).toArray, .pointer (some ⟨bs, 0, none⟩)] w fun e w' => e = .returned (.bool (roomB s.allocs x)) ∧ Ext Nothing w w' := by
  have hx0 : Ext Nothing w (w.alloc (.cells #[.int .i64 x.id, .int .i64 x.cap.cpu, .int .i64 x.cap.mem, .bool x.up, .bool x.drain, .int .i64 x.boot, .int .i64 x.epoch, .int .i64 x.seq] 37)) := (Ext.refl _ _).alloc _
  have hbs := hb.ext hx0 (fun e => e)
  have hbx : Blk (w.alloc (.cells #[.int .i64 x.id, .int .i64 x.cap.cpu, .int .i64 x.cap.mem, .bool x.up, .bool x.drain, .int .i64 x.boot, .int .i64 x.epoch, .int .i64 x.seq] 37)) w.heap.size 37 #[.int .i64 x.id, .int .i64 x.cap.cpu, .int .i64 x.cap.mem, .bool x.up, .bool x.drain, .int .i64 x.boot, .int .i64 x.epoch, .int .i64 x.seq] := Blk.new _ _ _
  have hA := (h.ext0 hx0).sA
  have hmA := h.mA
  unfold roomB
  generalize hu : usedS s.allocs x.id = u
  have HU := Lib.hid hu
  clear hu
  have key : ∀ w1, Ext Nothing (w.alloc (.cells #[.int .i64 x.id, .int .i64 x.cap.cpu, .int .i64 x.cap.mem, .bool x.up, .bool x.drain, .int .i64 x.boot, .int .i64 x.epoch, .int .i64 x.seq] 37)) w1 → w1.cell? ⟨w.heap.size, 1, none⟩ = some (.int .i64 x.cap.cpu) ∧ w1.cell? ⟨w.heap.size, 2, none⟩ = some (.int .i64 x.cap.mem) := fun w1 hx => ⟨(hbx.ext hx (fun e => e)).cell 1, (hbx.ext hx (fun e => e)).cell 2⟩
  show Calls Tryz.prog 15 #[.agg #[.int .i64 x.id, .int .i64 x.cap.cpu, .int .i64 x.cap.mem, .bool x.up, .bool x.drain, .int .i64 x.boot, .int .i64 x.epoch, .int .i64 x.seq], .pointer (some ⟨bs, 0, none⟩)] w _
  go_enter Tryz.func15, Tryz.ntmps15
  cases d1 : decide (u.cpu > x.cap.cpu) with
  | true =>
    have d1' := of_decide_eq_true d1
    go_wp2_with (first | (refine wpList_load_blk rfl 29 _ rfl STStore bs rfl #[.int .i64 s.index, .int .i64 s.next, .slice s.AJ s.nJ s.cJ, .slice s.AS s.nS s.cS, .slice s.AN s.nN s.cN, .slice s.AA s.nA s.cA, .slice s.AE s.nE s.cE, .slice s.AD s.nD s.cD, .slice s.AX s.nX s.cX] (by exact hbs) rfl ?_) | (go_at_call 16; refine (used_any s.AA s.nA s.cA s.allocs x.id _ _ _ _ _ _ _ _ _ hA (by omega)).mono ?_; rintro e w1 ⟨rfl, hx1⟩; rw [HU.out]; have hx2 := hx1.alloc (.cells #[.int .i64 u.cpu, .int .i64 u.mem] 35); obtain ⟨k1, k2⟩ := key _ hx2))
    go_ret
    exact ⟨rfl, (hx0.trans hx1 (fun _ _ e => e)).alloc _⟩
  | false =>
    have d1' := of_decide_eq_false d1
    cases d2 : decide (u.mem > x.cap.mem) with
    | true =>
      have d2' := of_decide_eq_true d2
      go_wp2_with (first | (refine wpList_load_blk rfl 29 _ rfl STStore bs rfl #[.int .i64 s.index, .int .i64 s.next, .slice s.AJ s.nJ s.cJ, .slice s.AS s.nS s.cS, .slice s.AN s.nN s.cN, .slice s.AA s.nA s.cA, .slice s.AE s.nE s.cE, .slice s.AD s.nD s.cD, .slice s.AX s.nX s.cX] (by exact hbs) rfl ?_) | (go_at_call 16; refine (used_any s.AA s.nA s.cA s.allocs x.id _ _ _ _ _ _ _ _ _ hA (by omega)).mono ?_; rintro e w1 ⟨rfl, hx1⟩; rw [HU.out]; have hx2 := hx1.alloc (.cells #[.int .i64 u.cpu, .int .i64 u.mem] 35); obtain ⟨k1, k2⟩ := key _ hx2))
      go_ret
      exact ⟨rfl, (hx0.trans hx1 (fun _ _ e => e)).alloc _⟩
    | false =>
      have d2' := of_decide_eq_false d2
      go_wp2_with (first | (refine wpList_load_blk rfl 29 _ rfl STStore bs rfl #[.int .i64 s.index, .int .i64 s.next, .slice s.AJ s.nJ s.cJ, .slice s.AS s.nS s.cS, .slice s.AN s.nN s.cN, .slice s.AA s.nA s.cA, .slice s.AE s.nE s.cE, .slice s.AD s.nD s.cD, .slice s.AX s.nX s.cX] (by exact hbs) rfl ?_) | (go_at_call 16; refine (used_any s.AA s.nA s.cA s.allocs x.id _ _ _ _ _ _ _ _ _ hA (by omega)).mono ?_; rintro e w1 ⟨rfl, hx1⟩; rw [HU.out]; have hx2 := hx1.alloc (.cells #[.int .i64 u.cpu, .int .i64 u.mem] 35); obtain ⟨k1, k2⟩ := key _ hx2))
      go_ret
      exact ⟨rfl, (hx0.trans hx1 (fun _ _ e => e)).alloc _⟩


set_option maxHeartbeats 1000000 in
theorem ixRoom (A : Option Addr) (n cap : Nat) (l : List (NodD)) (w : World) (hl : Sl w 8 A n (l.map NodD.cells)) (hn : n ≤ 67108864) (bs : Nat) (s : StoreV) (h : s.Ok w) (hb : Blk w bs 29 #[.int .i64 s.index, .int .i64 s.next, .slice s.AJ s.nJ s.cJ, .slice s.AS s.nS s.cS, .slice s.AN s.nN s.cN, .slice s.AA s.nA s.cA, .slice s.AE s.nE s.cE, .slice s.AD s.nD s.cD, .slice s.AX s.nX s.cX]) :
    Calls Tryz.prog 32 #[.slice A n cap, .func (.func 15) #[] #[.pointer (some ⟨bs, 0, none⟩)]] w fun e w' => e = .returned (.int .i64 (idxI (roomB s.allocs) l)) ∧ Ext Nothing w w' := by
  have hlen := Lib.hid hl.len
  go_enter Tryz.func32, Tryz.ntmps32
  go_wp2
  go_loopw [8] (fun i wr => ∃ j : Nat, j ≤ n ∧ i = .int .i64 j ∧ (∀ i < j, ∀ y, l[i]? = some y → (roomB s.allocs) y = false) ∧ Ext Nothing w wr) (fun i _ => n - (intOf i).toNat)
  case atStart => exact ⟨0, Nat.zero_le _, rfl, fun j hj => absurd hj (by omega), Ext.refl _ _⟩
  case round =>
    obtain ⟨j, hj, rfl, hno, hxx⟩ := hrel
    by_cases hlt : j < n
    · obtain ⟨hjn, b, off, rfl, hce⟩ := hl.get hxx hlt
      have hy : l[j]? = some l[j] := List.getElem?_eq_getElem hjn
      generalize l[j] = x at hce hy
      have hm : x ∈ l := List.mem_of_getElem? hy
      cases hp : (roomB s.allocs) x with
      | true =>
        have hr := Lib.hid (idx_hit (p := roomB s.allocs) hno hy hp)
        have hp' := Lib.hid hp
        clear hno hy hp
        go_wp2_with (first | (refine wpList_load_at rfl 37 _ rfl STNode b (off + j * 8) rfl (NodD.cells x).toArray (by exact hce) rfl ?_) | (go_at_call 15; refine (isRoom x bs s _ (h.ext0 hxx) (hb.ext hxx (fun e => e))).mono ?_; rintro e w' ⟨rfl, hx1⟩; rw [hp'.out]))
        go_ret
        exact ⟨by rw [hr.out]; rfl, hxx.trans hx1 (fun _ _ e => e)⟩
      | false =>
        have hno' : ∀ i < j + 1, ∀ y, l[i]? = some y → (roomB s.allocs) y = false := fun i hi y hy' => by
          by_cases h : i = j
          · subst h; rw [hy] at hy'; cases hy'; exact hp
          · exact hno i (by omega) y hy'
        have HN := Lib.hid hno'
        have hp' := Lib.hid hp
        clear hno hno' hy hp
        go_wp2_with (first | (refine wpList_load_at rfl 37 _ rfl STNode b (off + j * 8) rfl (NodD.cells x).toArray (by exact hce) rfl ?_) | (go_at_call 15; refine (isRoom x bs s _ (h.ext0 hxx) (hb.ext hxx (fun e => e))).mono ?_; rintro e w' ⟨rfl, hx1⟩; rw [hp'.out]))
        go_roundw
        case rel => exact ⟨j + 1, by omega, by go_num, HN.out, hxx.trans hx1 (fun _ _ e => e)⟩
        case measure => simp [intOf]; omega
    · have hr := Lib.hid (idx_none (p := roomB s.allocs) (l := l) (fun i hi y hy => hno i (by have := hlen.out; omega) y hy))
      clear hno
      go_wp2
      go_ret
      exact ⟨by rw [hr.out]; rfl, hxx⟩
theorem ctRoom (A : Option Addr) (n cap : Nat) (l : List (NodD)) (w : World) (hl : Sl w 8 A n (l.map NodD.cells)) (hn : n ≤ 67108864) (bs : Nat) (s : StoreV) (h : s.Ok w) (hb : Blk w bs 29 #[.int .i64 s.index, .int .i64 s.next, .slice s.AJ s.nJ s.cJ, .slice s.AS s.nS s.cS, .slice s.AN s.nN s.cN, .slice s.AA s.nA s.cA, .slice s.AE s.nE s.cE, .slice s.AD s.nD s.cD, .slice s.AX s.nX s.cX]) :
    Calls Tryz.prog 14 #[.slice A n cap, .func (.func 15) #[] #[.pointer (some ⟨bs, 0, none⟩)]] w fun e w' => e = .returned (.bool (l.any (roomB s.allocs))) ∧ Ext Nothing w w' := by
  have hi := ixRoom A n cap l w hl hn bs s h hb
  rw [← idx_any (roomB s.allocs) l]
  generalize idxI (roomB s.allocs) l = z at hi ⊢
  go_enter Tryz.func14, Tryz.ntmps14
  cases hz : decide (z ≥ 0) with
  | true =>
    have hz' := of_decide_eq_true hz
    go_wp2_with (go_at_call 32; refine hi.mono ?_; rintro e w1 ⟨rfl, hx1⟩)
    go_ret
    exact ⟨rfl, hx1⟩
  | false =>
    have hz' := of_decide_eq_false hz
    go_wp2_with (go_at_call 32; refine hi.mono ?_; rintro e w1 ⟨rfl, hx1⟩)
    go_ret
    exact ⟨rfl, hx1⟩


theorem room_any (s : StoreV) (w : World) (h : s.Ok w) : Calls Tryz.prog 7 #[.agg #[.int .i64 s.index, .int .i64 s.next, .slice s.AJ s.nJ s.cJ, .slice s.AS s.nS s.cS, .slice s.AN s.nN s.cN, .slice s.AA s.nA s.cA, .slice s.AE s.nE s.cE, .slice s.AD s.nD s.cD, .slice s.AX s.nX s.cX]] w fun e w' => e = .returned (.bool (!(s.nodes.any (roomB s.allocs)))) ∧ Ext Nothing w w' := by
  have hx0 : Ext Nothing w (w.alloc (.cells #[.int .i64 s.index, .int .i64 s.next, .slice s.AJ s.nJ s.cJ, .slice s.AS s.nS s.cS, .slice s.AN s.nN s.cN, .slice s.AA s.nA s.cA, .slice s.AE s.nE s.cE, .slice s.AD s.nD s.cD, .slice s.AX s.nX s.cX] 29)) := by (repeat' (first | (with_reducible assumption) | (with_reducible exact Ext.refl _ _) | (with_reducible refine Ext.alloc ?_ _) | (with_reducible refine Ext.drew ?_) | (with_reducible refine Ext.drewN ?_ _) | (with_reducible refine Ext.setCell ?_ (.inl (by simp only [World.size_alloc, World.size_setCell, World.size_drew] <;> omega)) _) | (with_reducible refine Ext.trans ?_ (by assumption) (fun _ _ e => e))))
  have hb : Blk (w.alloc (.cells #[.int .i64 s.index, .int .i64 s.next, .slice s.AJ s.nJ s.cJ, .slice s.AS s.nS s.cS, .slice s.AN s.nN s.cN, .slice s.AA s.nA s.cA, .slice s.AE s.nE s.cE, .slice s.AD s.nD s.cD, .slice s.AX s.nX s.cX] 29)) w.heap.size 29 #[.int .i64 s.index, .int .i64 s.next, .slice s.AJ s.nJ s.cJ, .slice s.AS s.nS s.cS, .slice s.AN s.nN s.cN, .slice s.AA s.nA s.cA, .slice s.AE s.nE s.cE, .slice s.AD s.nD s.cD, .slice s.AX s.nX s.cX] := Blk.new _ _ _
  have h1 := h.ext0 hx0
  have hm := h.mN
  generalize hz : (s.nodes.any (roomB s.allocs)) = z
  have HZ := Lib.hid hz
  clear hz
  go_enter Tryz.func7, Tryz.ntmps7
  go_wp2_with (go_at_call 14; refine (ctRoom s.AN s.nN s.cN s.nodes _ h1.sN (by omega) w.heap.size s h1 hb).mono ?_; rintro e w1 ⟨rfl, hx1⟩; rw [HZ.out])
  go_ret
  exact ⟨rfl, hx0.trans hx1 (fun _ _ e => e)⟩

end Go.Proofs.YtfmkoemogicdkaaGreat