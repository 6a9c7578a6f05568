/- package spec: checked sums. -/
import Derived.Test.YtfmkoemogicdkaaGreatStore
import Derived.Test.YtfmkoemogicdkaaGreatRows
import Derived.Deep.Cut
namespace Go.Proofs.YtfmkoemogicdkaaGreat
set_option linter.unusedVariables false
open Go.RowKit

def inB (n a b : Int) : Bool := decide (a ≤ n) && decide (n ≤ b)
def resB (r : ResD) (m : Int) : Bool := inB r.cpu 0 m && inB r.mem 0 m
def most : Int := 1152921504606846976
def addF (a b : ResD) : Option ResD := if resB a most && resB b most && resB ⟨a.cpu + b.cpu, a.mem + b.mem⟩ most then some ⟨a.cpu + b.cpu, a.mem + b.mem⟩ else none
def fitsO (o : Option ResD) (m : ResD) : Bool := match o with | some s => decide (s.cpu ≤ m.cpu) && decide (s.mem ≤ m.mem) | none => false
def fitsF (u a m : ResD) : Bool := fitsO (addF u a) m
def ResD.v (r : ResD) : Value := .agg #[.int .i64 r.cpu, .int .i64 r.mem]
def optR (o : Option ResD) : ResD := o.getD ⟨0, 0⟩

theorem within_any (n a b : Int) (w : World) : Calls Tryz.prog 62 #[.int .i64 n, .int .i64 a, .int .i64 b] w fun e w' => e = .returned (.bool (inB n a b)) ∧ w = w' := by
  by_cases h1 : a ≤ n
  · by_cases h2 : n ≤ b
    · have e : inB n a b = true := by simp [inB, h1, h2]
      have H := Lib.hid e
      clear e
      go_enter Tryz.func62, Tryz.ntmps62
      go_wp2
      go_ret
      exact ⟨by rw [H.out]; rfl, rfl⟩
    · have e : inB n a b = false := by simp [inB, h2]
      have H := Lib.hid e
      clear e
      go_enter Tryz.func62, Tryz.ntmps62
      go_wp2
      go_ret
      exact ⟨by rw [H.out]; rfl, rfl⟩
  · have e : inB n a b = false := by simp [inB, h1]
    have H := Lib.hid e
    clear e
    go_enter Tryz.func62, Tryz.ntmps62
    go_wp2
    go_ret
    exact ⟨by rw [H.out]; rfl, rfl⟩
theorem within_yes (n a b : Int) (w : World) (h : inB n a b = true) : Calls Tryz.prog 62 #[.int .i64 n, .int .i64 a, .int .i64 b] w fun e w' => e = .returned (.bool true) ∧ w = w' := by
  rw [← h]; exact within_any n a b w
theorem within_no (n a b : Int) (w : World) (h : inB n a b = false) : Calls Tryz.prog 62 #[.int .i64 n, .int .i64 a, .int .i64 b] w fun e w' => e = .returned (.bool false) ∧ w = w' := by
  rw [← h]; exact within_any n a b w

theorem ok1_any (n m : Int) (bx : Nat) (w : World) (hb : Blk w bx 3 #[.int .i64 m]) : Calls Tryz.prog 61 #[.int .i64 n, .pointer (some ⟨bx, 0, none⟩)] w fun e w' => e = .returned (.bool (inB n 0 m)) ∧ w = w' := by
  have q : w.cell? ⟨bx, 0, none⟩ = some (.int .i64 m) := hb.cell 0
  go_enter Tryz.func61, Tryz.ntmps61
  go_wp2_with (go_at_call 62; refine (within_any _ _ _ _).mono ?_; rintro e w' ⟨rfl, rfl⟩)
  go_ret
  exact ⟨rfl, rfl⟩
theorem res_any (r : ResD) (m : Int) (w : World) : Calls Tryz.prog 49 #[r.v, .int .i64 m] w fun e w' => e = .returned (.bool (resB r m)) ∧ Ext Nothing w w' := by
  obtain ⟨c, d⟩ := r
  have hx : Ext Nothing w ((w.alloc (.cells #[.int .i64 c, .int .i64 d] 35)).alloc (.cells #[.int .i64 m] 3)) := ((Ext.refl _ _).alloc _).alloc _
  have hb : Blk ((w.alloc (.cells #[.int .i64 c, .int .i64 d] 35)).alloc (.cells #[.int .i64 m] 3)) (w.heap.size + 1) 3 #[.int .i64 m] := Blk.new' _ _ _ (by simp)
  simp only [ResD.v]
  cases h1 : inB c 0 m with
  | true =>
    have e : resB ⟨c, d⟩ m = inB d 0 m := by simp [resB, h1]
    have H := Lib.hid e
    have H1 := Lib.hid h1
    clear e h1
    go_enter Tryz.func49, Tryz.ntmps49
    go_wp2_with (go_at_call 61; refine (ok1_any _ m _ _ hb).mono ?_; rintro e w' ⟨rfl, rfl⟩; try rw [H1.out])
    go_ret
    exact ⟨by rw [H.out]; rfl, hx⟩
  | false =>
    have e : resB ⟨c, d⟩ m = false := by simp [resB, h1]
    have H := Lib.hid e
    have H1 := Lib.hid h1
    clear e h1
    go_enter Tryz.func49, Tryz.ntmps49
    go_wp2_with (go_at_call 61; refine (ok1_any _ m _ _ hb).mono ?_; rintro e w' ⟨rfl, rfl⟩; try rw [H1.out])
    go_ret
    exact ⟨by rw [H.out]; rfl, hx⟩

theorem resB_range {r : ResD} {m : Int} (h : resB r m = true) : 0 ≤ r.cpu ∧ r.cpu ≤ m ∧ 0 ≤ r.mem ∧ r.mem ≤ m := by
  simp [resB, inB] at h; omega
theorem res_yes (r : ResD) (m : Int) (w : World) (h : resB r m = true) : Calls Tryz.prog 49 #[.agg #[.int .i64 r.cpu, .int .i64 r.mem], .int .i64 m] w fun e w' => e = .returned (.bool true) ∧ Ext Nothing w w' := by
  rw [← h]; exact res_any r m w
theorem res_no (r : ResD) (m : Int) (w : World) (h : resB r m = false) : Calls Tryz.prog 49 #[.agg #[.int .i64 r.cpu, .int .i64 r.mem], .int .i64 m] w fun e w' => e = .returned (.bool false) ∧ Ext Nothing w w' := by
  rw [← h]; exact res_any r m w
theorem STRes : StructT Tryz.prog 35 2 := .of (by kernel_rfl)
theorem res_is (r : ResD) (m : Int) (b : Bool) (w : World) (h : resB r m = b) : Calls Tryz.prog 49 #[.agg #[.int .i64 r.cpu, .int .i64 r.mem], .int .i64 m] w fun e w' => e = .returned (.bool b) ∧ Ext Nothing w w' := by
  rw [← h]; exact res_any r m w
theorem res_lit (c d m : Int) (w : World) : Calls Tryz.prog 49 #[.agg #[.int .i64 c, .int .i64 d], .int .i64 m] w fun e w' => e = .returned (.bool (resB ⟨c, d⟩ m)) ∧ Ext Nothing w w' := res_any ⟨c, d⟩ m w
set_option maxHeartbeats 1000000 in
theorem add_any (a b : ResD) (w : World) : Calls Tryz.prog 33 #[a.v, b.v] w fun e w' => e = .returned (.tuple #[(optR (addF a b)).v, .bool (addF a b).isSome]) ∧ Ext Nothing w w' := by
  obtain ⟨a1, a2⟩ := a
  obtain ⟨b1, b2⟩ := b
  simp only [ResD.v]
  have hx0 : Ext Nothing w (((w.alloc (.cells #[.int .i64 a1, .int .i64 a2] 35)).alloc (.cells #[.int .i64 b1, .int .i64 b2] 35)).alloc (.cells #[.int .i64 0, .int .i64 0] 35)) := by (repeat' (first | (with_reducible assumption) | (with_reducible exact Ext.refl _ _) | (with_reducible refine Ext.alloc ?_ _) | (with_reducible refine Ext.drew ?_) | (with_reducible refine Ext.drewN ?_ _) | (with_reducible refine Ext.setCell ?_ (.inl (by simp only [World.size_alloc, World.size_setCell, World.size_drew] <;> omega)) _) | (with_reducible refine Ext.trans ?_ (by assumption) (fun _ _ e => e))))
  have hA : Blk (((w.alloc (.cells #[.int .i64 a1, .int .i64 a2] 35)).alloc (.cells #[.int .i64 b1, .int .i64 b2] 35)).alloc (.cells #[.int .i64 0, .int .i64 0] 35)) w.heap.size 35 #[.int .i64 a1, .int .i64 a2] := (Blk.new w _ _).ext (S := Nothing) (by (repeat' (first | (with_reducible assumption) | (with_reducible exact Ext.refl _ _) | (with_reducible refine Ext.alloc ?_ _) | (with_reducible refine Ext.drew ?_) | (with_reducible refine Ext.drewN ?_ _) | (with_reducible refine Ext.setCell ?_ (.inl (by simp only [World.size_alloc, World.size_setCell, World.size_drew] <;> omega)) _) | (with_reducible refine Ext.trans ?_ (by assumption) (fun _ _ e => e))))) (fun e => e)
  have hB : Blk (((w.alloc (.cells #[.int .i64 a1, .int .i64 a2] 35)).alloc (.cells #[.int .i64 b1, .int .i64 b2] 35)).alloc (.cells #[.int .i64 0, .int .i64 0] 35)) (w.heap.size + 1) 35 #[.int .i64 b1, .int .i64 b2] := (Blk.new' (w.alloc (.cells #[.int .i64 a1, .int .i64 a2] 35)) _ _ (by simp)).ext (S := Nothing) (by (repeat' (first | (with_reducible assumption) | (with_reducible exact Ext.refl _ _) | (with_reducible refine Ext.alloc ?_ _) | (with_reducible refine Ext.drew ?_) | (with_reducible refine Ext.drewN ?_ _) | (with_reducible refine Ext.setCell ?_ (.inl (by simp only [World.size_alloc, World.size_setCell, World.size_drew] <;> omega)) _) | (with_reducible refine Ext.trans ?_ (by assumption) (fun _ _ e => e))))) (fun e => e)
  have hC : Blk (((w.alloc (.cells #[.int .i64 a1, .int .i64 a2] 35)).alloc (.cells #[.int .i64 b1, .int .i64 b2] 35)).alloc (.cells #[.int .i64 0, .int .i64 0] 35)) (w.heap.size + 1 + 1) 35 #[.int .i64 0, .int .i64 0] := Blk.new' _ _ _ (by simp)
  cases h1 : resB ⟨a1, a2⟩ 1152921504606846976 with
  | false =>
    have e : addF ⟨a1, a2⟩ ⟨b1, b2⟩ = none := by simp [addF, most, h1]
    have H := Lib.hid e
    have H1 := Lib.hid h1
    clear e h1
    go_enter Tryz.func33, Tryz.ntmps33
    go_upto_region 1 with (fail)
    generalize ((w.alloc (.cells #[.int .i64 a1, .int .i64 a2] 35)).alloc (.cells #[.int .i64 b1, .int .i64 b2] 35)).alloc (.cells #[.int .i64 0, .int .i64 0] 35) = W0 at hx0 hA hB hC ⊢
    have x0 : W0.cell? ⟨w.heap.size, 0, none⟩ = some (.int .i64 a1) := hA.cell 0
    have x1 : W0.cell? ⟨w.heap.size, 1, none⟩ = some (.int .i64 a2) := hA.cell 1
    go_wp2_with (go_at_call 49; refine (res_lit _ _ _ _).mono ?_; rintro e wn ⟨rfl, hn⟩; (try rw [H1.out]); have hA1 : Blk wn w.heap.size 35 #[.int .i64 a1, .int .i64 a2] := hA.ext (S := Nothing) (by (repeat' (first | (with_reducible assumption) | (with_reducible exact Ext.refl _ _) | (with_reducible refine Ext.alloc ?_ _) | (with_reducible refine Ext.drew ?_) | (with_reducible refine Ext.drewN ?_ _) | (with_reducible refine Ext.setCell ?_ (.inl (by simp only [World.size_alloc, World.size_setCell, World.size_drew] <;> omega)) _) | (with_reducible refine Ext.trans ?_ (by assumption) (fun _ _ e => e))))) (fun e => e); have hB1 : Blk wn (w.heap.size + 1) 35 #[.int .i64 b1, .int .i64 b2] := hB.ext (S := Nothing) (by (repeat' (first | (with_reducible assumption) | (with_reducible exact Ext.refl _ _) | (with_reducible refine Ext.alloc ?_ _) | (with_reducible refine Ext.drew ?_) | (with_reducible refine Ext.drewN ?_ _) | (with_reducible refine Ext.setCell ?_ (.inl (by simp only [World.size_alloc, World.size_setCell, World.size_drew] <;> omega)) _) | (with_reducible refine Ext.trans ?_ (by assumption) (fun _ _ e => e))))) (fun e => e); have hC1 : Blk wn (w.heap.size + 1 + 1) 35 #[.int .i64 0, .int .i64 0] := hC.ext (S := Nothing) (by (repeat' (first | (with_reducible assumption) | (with_reducible exact Ext.refl _ _) | (with_reducible refine Ext.alloc ?_ _) | (with_reducible refine Ext.drew ?_) | (with_reducible refine Ext.drewN ?_ _) | (with_reducible refine Ext.setCell ?_ (.inl (by simp only [World.size_alloc, World.size_setCell, World.size_drew] <;> omega)) _) | (with_reducible refine Ext.trans ?_ (by assumption) (fun _ _ e => e))))) (fun e => e); have p0 : wn.cell? ⟨w.heap.size, 0, none⟩ = some (.int .i64 a1) := hA1.cell 0; have p1 : wn.cell? ⟨w.heap.size, 1, none⟩ = some (.int .i64 a2) := hA1.cell 1; have q0 : wn.cell? ⟨w.heap.size + 1, 0, none⟩ = some (.int .i64 b1) := hB1.cell 0; have q1 : wn.cell? ⟨w.heap.size + 1, 1, none⟩ = some (.int .i64 b2) := hB1.cell 1; have r0 : wn.cell? ⟨w.heap.size + 1 + 1, 0, none⟩ = some (.int .i64 0) := hC1.cell 0; have r1 : wn.cell? ⟨w.heap.size + 1 + 1, 1, none⟩ = some (.int .i64 0) := hC1.cell 1; have f0 : wn.frozen? ⟨w.heap.size + 1 + 1, 0, none⟩ = false := hC1.frozen 0; have f1 : wn.frozen? ⟨w.heap.size + 1 + 1, 1, none⟩ = false := hC1.frozen 1)
    refine bodyPost_ret (results_cell_tmp rfl STRes (g := w.heap.size + 1 + 1) rfl ((hC1.set_ 0 _).set_ 1 _) rfl) rfl ⟨by rw [H.out]; rfl, ?_⟩
    have := hx0.size
    (repeat' (first | (with_reducible assumption) | (with_reducible exact Ext.refl _ _) | (with_reducible refine Ext.alloc ?_ _) | (with_reducible refine Ext.drew ?_) | (with_reducible refine Ext.drewN ?_ _) | (with_reducible refine Ext.setCell ?_ (.inl (by simp only [World.size_alloc, World.size_setCell, World.size_drew] <;> omega)) _) | (with_reducible refine Ext.trans ?_ (by assumption) (fun _ _ e => e))))
  | true =>
    cases h2 : resB ⟨b1, b2⟩ 1152921504606846976 with
    | false =>
      have e : addF ⟨a1, a2⟩ ⟨b1, b2⟩ = none := by simp [addF, most, h2]
      have H := Lib.hid e
      have H1 := Lib.hid h1
      have H2 := Lib.hid h2
      clear e h1 h2
      go_enter Tryz.func33, Tryz.ntmps33
      go_upto_region 1 with (fail)
      generalize ((w.alloc (.cells #[.int .i64 a1, .int .i64 a2] 35)).alloc (.cells #[.int .i64 b1, .int .i64 b2] 35)).alloc (.cells #[.int .i64 0, .int .i64 0] 35) = W0 at hx0 hA hB hC ⊢
      have x0 : W0.cell? ⟨w.heap.size, 0, none⟩ = some (.int .i64 a1) := hA.cell 0
      have x1 : W0.cell? ⟨w.heap.size, 1, none⟩ = some (.int .i64 a2) := hA.cell 1
      go_wp2_with (go_at_call 49; refine (res_lit _ _ _ _).mono ?_; rintro e wn ⟨rfl, hn⟩; (try rw [H1.out]); (try rw [H2.out]); have hA1 : Blk wn w.heap.size 35 #[.int .i64 a1, .int .i64 a2] := hA.ext (S := Nothing) (by (repeat' (first | (with_reducible assumption) | (with_reducible exact Ext.refl _ _) | (with_reducible refine Ext.alloc ?_ _) | (with_reducible refine Ext.drew ?_) | (with_reducible refine Ext.drewN ?_ _) | (with_reducible refine Ext.setCell ?_ (.inl (by simp only [World.size_alloc, World.size_setCell, World.size_drew] <;> omega)) _) | (with_reducible refine Ext.trans ?_ (by assumption) (fun _ _ e => e))))) (fun e => e); have hB1 : Blk wn (w.heap.size + 1) 35 #[.int .i64 b1, .int .i64 b2] := hB.ext (S := Nothing) (by (repeat' (first | (with_reducible assumption) | (with_reducible exact Ext.refl _ _) | (with_reducible refine Ext.alloc ?_ _) | (with_reducible refine Ext.drew ?_) | (with_reducible refine Ext.drewN ?_ _) | (with_reducible refine Ext.setCell ?_ (.inl (by simp only [World.size_alloc, World.size_setCell, World.size_drew] <;> omega)) _) | (with_reducible refine Ext.trans ?_ (by assumption) (fun _ _ e => e))))) (fun e => e); have hC1 : Blk wn (w.heap.size + 1 + 1) 35 #[.int .i64 0, .int .i64 0] := hC.ext (S := Nothing) (by (repeat' (first | (with_reducible assumption) | (with_reducible exact Ext.refl _ _) | (with_reducible refine Ext.alloc ?_ _) | (with_reducible refine Ext.drew ?_) | (with_reducible refine Ext.drewN ?_ _) | (with_reducible refine Ext.setCell ?_ (.inl (by simp only [World.size_alloc, World.size_setCell, World.size_drew] <;> omega)) _) | (with_reducible refine Ext.trans ?_ (by assumption) (fun _ _ e => e))))) (fun e => e); have p0 : wn.cell? ⟨w.heap.size, 0, none⟩ = some (.int .i64 a1) := hA1.cell 0; have p1 : wn.cell? ⟨w.heap.size, 1, none⟩ = some (.int .i64 a2) := hA1.cell 1; have q0 : wn.cell? ⟨w.heap.size + 1, 0, none⟩ = some (.int .i64 b1) := hB1.cell 0; have q1 : wn.cell? ⟨w.heap.size + 1, 1, none⟩ = some (.int .i64 b2) := hB1.cell 1; have r0 : wn.cell? ⟨w.heap.size + 1 + 1, 0, none⟩ = some (.int .i64 0) := hC1.cell 0; have r1 : wn.cell? ⟨w.heap.size + 1 + 1, 1, none⟩ = some (.int .i64 0) := hC1.cell 1; have f0 : wn.frozen? ⟨w.heap.size + 1 + 1, 0, none⟩ = false := hC1.frozen 0; have f1 : wn.frozen? ⟨w.heap.size + 1 + 1, 1, none⟩ = false := hC1.frozen 1)
      refine bodyPost_ret (results_cell_tmp rfl STRes (g := w.heap.size + 1 + 1) rfl ((hC1.set_ 0 _).set_ 1 _) rfl) rfl ⟨by rw [H.out]; rfl, ?_⟩
      have := hx0.size
      (repeat' (first | (with_reducible assumption) | (with_reducible exact Ext.refl _ _) | (with_reducible refine Ext.alloc ?_ _) | (with_reducible refine Ext.drew ?_) | (with_reducible refine Ext.drewN ?_ _) | (with_reducible refine Ext.setCell ?_ (.inl (by simp only [World.size_alloc, World.size_setCell, World.size_drew] <;> omega)) _) | (with_reducible refine Ext.trans ?_ (by assumption) (fun _ _ e => e))))
    | true =>
      obtain ⟨k1, k2, k3, k4⟩ := resB_range h1
      obtain ⟨l1, l2, l3, l4⟩ := resB_range h2
      simp only at k1 k2 k3 k4 l1 l2 l3 l4
      cases h3 : resB ⟨a1 + b1, a2 + b2⟩ 1152921504606846976 with
      | false =>
        have e : addF ⟨a1, a2⟩ ⟨b1, b2⟩ = none := by simp [addF, most, h1, h2, h3]
        have H := Lib.hid e
        have H1 := Lib.hid h1
        have H2 := Lib.hid h2
        have H3 := Lib.hid h3
        clear e h1 h2 h3
        go_enter Tryz.func33, Tryz.ntmps33
        go_upto_region 1 with (fail)
        generalize ((w.alloc (.cells #[.int .i64 a1, .int .i64 a2] 35)).alloc (.cells #[.int .i64 b1, .int .i64 b2] 35)).alloc (.cells #[.int .i64 0, .int .i64 0] 35) = W0 at hx0 hA hB hC ⊢
        have x0 : W0.cell? ⟨w.heap.size, 0, none⟩ = some (.int .i64 a1) := hA.cell 0
        have x1 : W0.cell? ⟨w.heap.size, 1, none⟩ = some (.int .i64 a2) := hA.cell 1
        go_upto_region 4 with (go_at_call 49; refine (res_lit _ _ _ _).mono ?_; rintro e wn ⟨rfl, hn⟩; (try rw [H1.out]); (try rw [H2.out]); have hA1 : Blk wn w.heap.size 35 #[.int .i64 a1, .int .i64 a2] := hA.ext (S := Nothing) (by (repeat' (first | (with_reducible assumption) | (with_reducible exact Ext.refl _ _) | (with_reducible refine Ext.alloc ?_ _) | (with_reducible refine Ext.drew ?_) | (with_reducible refine Ext.drewN ?_ _) | (with_reducible refine Ext.setCell ?_ (.inl (by simp only [World.size_alloc, World.size_setCell, World.size_drew] <;> omega)) _) | (with_reducible refine Ext.trans ?_ (by assumption) (fun _ _ e => e))))) (fun e => e); have hB1 : Blk wn (w.heap.size + 1) 35 #[.int .i64 b1, .int .i64 b2] := hB.ext (S := Nothing) (by (repeat' (first | (with_reducible assumption) | (with_reducible exact Ext.refl _ _) | (with_reducible refine Ext.alloc ?_ _) | (with_reducible refine Ext.drew ?_) | (with_reducible refine Ext.drewN ?_ _) | (with_reducible refine Ext.setCell ?_ (.inl (by simp only [World.size_alloc, World.size_setCell, World.size_drew] <;> omega)) _) | (with_reducible refine Ext.trans ?_ (by assumption) (fun _ _ e => e))))) (fun e => e); have hC1 : Blk wn (w.heap.size + 1 + 1) 35 #[.int .i64 0, .int .i64 0] := hC.ext (S := Nothing) (by (repeat' (first | (with_reducible assumption) | (with_reducible exact Ext.refl _ _) | (with_reducible refine Ext.alloc ?_ _) | (with_reducible refine Ext.drew ?_) | (with_reducible refine Ext.drewN ?_ _) | (with_reducible refine Ext.setCell ?_ (.inl (by simp only [World.size_alloc, World.size_setCell, World.size_drew] <;> omega)) _) | (with_reducible refine Ext.trans ?_ (by assumption) (fun _ _ e => e))))) (fun e => e); have p0 : wn.cell? ⟨w.heap.size, 0, none⟩ = some (.int .i64 a1) := hA1.cell 0; have p1 : wn.cell? ⟨w.heap.size, 1, none⟩ = some (.int .i64 a2) := hA1.cell 1; have q0 : wn.cell? ⟨w.heap.size + 1, 0, none⟩ = some (.int .i64 b1) := hB1.cell 0; have q1 : wn.cell? ⟨w.heap.size + 1, 1, none⟩ = some (.int .i64 b2) := hB1.cell 1; have r0 : wn.cell? ⟨w.heap.size + 1 + 1, 0, none⟩ = some (.int .i64 0) := hC1.cell 0; have r1 : wn.cell? ⟨w.heap.size + 1 + 1, 1, none⟩ = some (.int .i64 0) := hC1.cell 1; have f0 : wn.frozen? ⟨w.heap.size + 1 + 1, 0, none⟩ = false := hC1.frozen 0; have f1 : wn.frozen? ⟨w.heap.size + 1 + 1, 1, none⟩ = false := hC1.frozen 1)
        have hD : Blk (wn.alloc (.cells #[.int .i64 (a1 + b1), .int .i64 (a2 + b2)] 35)) wn.heap.size 35 #[.int .i64 (a1 + b1), .int .i64 (a2 + b2)] := Blk.new _ _ _
        have hn4 : Ext Nothing wn (wn.alloc (.cells #[.int .i64 (a1 + b1), .int .i64 (a2 + b2)] 35)) := by (repeat' (first | (with_reducible assumption) | (with_reducible exact Ext.refl _ _) | (with_reducible refine Ext.alloc ?_ _) | (with_reducible refine Ext.drew ?_) | (with_reducible refine Ext.drewN ?_ _) | (with_reducible refine Ext.setCell ?_ (.inl (by simp only [World.size_alloc, World.size_setCell, World.size_drew] <;> omega)) _) | (with_reducible refine Ext.trans ?_ (by assumption) (fun _ _ e => e))))
        generalize wn.alloc (.cells #[.int .i64 (a1 + b1), .int .i64 (a2 + b2)] 35) = W4 at hD hn4 ⊢
        have d0 : W4.cell? ⟨wn.heap.size, 0, none⟩ = some (.int .i64 (a1 + b1)) := hD.cell 0
        have d1 : W4.cell? ⟨wn.heap.size, 1, none⟩ = some (.int .i64 (a2 + b2)) := hD.cell 1
        go_wp2_with (go_at_call 49; refine (res_lit _ _ _ _).mono ?_; rintro e w5 ⟨rfl, hn5⟩; rw [H3.out]; have hD5 := hD.ext hn5 (fun e => e); have hC5 : Blk w5 (w.heap.size + 1 + 1) 35 #[.int .i64 0, .int .i64 0] := hC.ext (S := Nothing) (by (repeat' (first | (with_reducible assumption) | (with_reducible exact Ext.refl _ _) | (with_reducible refine Ext.alloc ?_ _) | (with_reducible refine Ext.drew ?_) | (with_reducible refine Ext.drewN ?_ _) | (with_reducible refine Ext.setCell ?_ (.inl (by simp only [World.size_alloc, World.size_setCell, World.size_drew] <;> omega)) _) | (with_reducible refine Ext.trans ?_ (by assumption) (fun _ _ e => e))))) (fun e => e); have d0 : w5.cell? ⟨wn.heap.size, 0, none⟩ = some (.int .i64 (a1 + b1)) := hD5.cell 0; have d1 : w5.cell? ⟨wn.heap.size, 1, none⟩ = some (.int .i64 (a2 + b2)) := hD5.cell 1; have r0 : w5.cell? ⟨w.heap.size + 1 + 1, 0, none⟩ = some (.int .i64 0) := hC5.cell 0; have r1 : w5.cell? ⟨w.heap.size + 1 + 1, 1, none⟩ = some (.int .i64 0) := hC5.cell 1; have f0 : w5.frozen? ⟨w.heap.size + 1 + 1, 0, none⟩ = false := hC5.frozen 0; have f1 : w5.frozen? ⟨w.heap.size + 1 + 1, 1, none⟩ = false := hC5.frozen 1)
        refine bodyPost_ret (results_cell_tmp rfl STRes (g := w.heap.size + 1 + 1) rfl ((hC5.set_ 0 _).set_ 1 _) rfl) rfl ⟨by rw [H.out]; rfl, ?_⟩
        have := hx0.size
        (repeat' (first | (with_reducible assumption) | (with_reducible exact Ext.refl _ _) | (with_reducible refine Ext.alloc ?_ _) | (with_reducible refine Ext.drew ?_) | (with_reducible refine Ext.drewN ?_ _) | (with_reducible refine Ext.setCell ?_ (.inl (by simp only [World.size_alloc, World.size_setCell, World.size_drew] <;> omega)) _) | (with_reducible refine Ext.trans ?_ (by assumption) (fun _ _ e => e))))
      | true =>
        have e : addF ⟨a1, a2⟩ ⟨b1, b2⟩ = some ⟨a1 + b1, a2 + b2⟩ := by simp [addF, most, h1, h2, h3]
        have H := Lib.hid e
        have H1 := Lib.hid h1
        have H2 := Lib.hid h2
        have H3 := Lib.hid h3
        clear e h1 h2 h3
        go_enter Tryz.func33, Tryz.ntmps33
        go_upto_region 1 with (fail)
        generalize ((w.alloc (.cells #[.int .i64 a1, .int .i64 a2] 35)).alloc (.cells #[.int .i64 b1, .int .i64 b2] 35)).alloc (.cells #[.int .i64 0, .int .i64 0] 35) = W0 at hx0 hA hB hC ⊢
        have x0 : W0.cell? ⟨w.heap.size, 0, none⟩ = some (.int .i64 a1) := hA.cell 0
        have x1 : W0.cell? ⟨w.heap.size, 1, none⟩ = some (.int .i64 a2) := hA.cell 1
        go_upto_region 4 with (go_at_call 49; refine (res_lit _ _ _ _).mono ?_; rintro e wn ⟨rfl, hn⟩; (try rw [H1.out]); (try rw [H2.out]); have hA1 : Blk wn w.heap.size 35 #[.int .i64 a1, .int .i64 a2] := hA.ext (S := Nothing) (by (repeat' (first | (with_reducible assumption) | (with_reducible exact Ext.refl _ _) | (with_reducible refine Ext.alloc ?_ _) | (with_reducible refine Ext.drew ?_) | (with_reducible refine Ext.drewN ?_ _) | (with_reducible refine Ext.setCell ?_ (.inl (by simp only [World.size_alloc, World.size_setCell, World.size_drew] <;> omega)) _) | (with_reducible refine Ext.trans ?_ (by assumption) (fun _ _ e => e))))) (fun e => e); have hB1 : Blk wn (w.heap.size + 1) 35 #[.int .i64 b1, .int .i64 b2] := hB.ext (S := Nothing) (by (repeat' (first | (with_reducible assumption) | (with_reducible exact Ext.refl _ _) | (with_reducible refine Ext.alloc ?_ _) | (with_reducible refine Ext.drew ?_) | (with_reducible refine Ext.drewN ?_ _) | (with_reducible refine Ext.setCell ?_ (.inl (by simp only [World.size_alloc, World.size_setCell, World.size_drew] <;> omega)) _) | (with_reducible refine Ext.trans ?_ (by assumption) (fun _ _ e => e))))) (fun e => e); have hC1 : Blk wn (w.heap.size + 1 + 1) 35 #[.int .i64 0, .int .i64 0] := hC.ext (S := Nothing) (by (repeat' (first | (with_reducible assumption) | (with_reducible exact Ext.refl _ _) | (with_reducible refine Ext.alloc ?_ _) | (with_reducible refine Ext.drew ?_) | (with_reducible refine Ext.drewN ?_ _) | (with_reducible refine Ext.setCell ?_ (.inl (by simp only [World.size_alloc, World.size_setCell, World.size_drew] <;> omega)) _) | (with_reducible refine Ext.trans ?_ (by assumption) (fun _ _ e => e))))) (fun e => e); have p0 : wn.cell? ⟨w.heap.size, 0, none⟩ = some (.int .i64 a1) := hA1.cell 0; have p1 : wn.cell? ⟨w.heap.size, 1, none⟩ = some (.int .i64 a2) := hA1.cell 1; have q0 : wn.cell? ⟨w.heap.size + 1, 0, none⟩ = some (.int .i64 b1) := hB1.cell 0; have q1 : wn.cell? ⟨w.heap.size + 1, 1, none⟩ = some (.int .i64 b2) := hB1.cell 1; have r0 : wn.cell? ⟨w.heap.size + 1 + 1, 0, none⟩ = some (.int .i64 0) := hC1.cell 0; have r1 : wn.cell? ⟨w.heap.size + 1 + 1, 1, none⟩ = some (.int .i64 0) := hC1.cell 1; have f0 : wn.frozen? ⟨w.heap.size + 1 + 1, 0, none⟩ = false := hC1.frozen 0; have f1 : wn.frozen? ⟨w.heap.size + 1 + 1, 1, none⟩ = false := hC1.frozen 1)
        have hD : Blk (wn.alloc (.cells #[.int .i64 (a1 + b1), .int .i64 (a2 + b2)] 35)) wn.heap.size 35 #[.int .i64 (a1 + b1), .int .i64 (a2 + b2)] := Blk.new _ _ _
        have hn4 : Ext Nothing wn (wn.alloc (.cells #[.int .i64 (a1 + b1), .int .i64 (a2 + b2)] 35)) := by (repeat' (first | (with_reducible assumption) | (with_reducible exact Ext.refl _ _) | (with_reducible refine Ext.alloc ?_ _) | (with_reducible refine Ext.drew ?_) | (with_reducible refine Ext.drewN ?_ _) | (with_reducible refine Ext.setCell ?_ (.inl (by simp only [World.size_alloc, World.size_setCell, World.size_drew] <;> omega)) _) | (with_reducible refine Ext.trans ?_ (by assumption) (fun _ _ e => e))))
        generalize wn.alloc (.cells #[.int .i64 (a1 + b1), .int .i64 (a2 + b2)] 35) = W4 at hD hn4 ⊢
        have d0 : W4.cell? ⟨wn.heap.size, 0, none⟩ = some (.int .i64 (a1 + b1)) := hD.cell 0
        have d1 : W4.cell? ⟨wn.heap.size, 1, none⟩ = some (.int .i64 (a2 + b2)) := hD.cell 1
        go_wp2_with (go_at_call 49; refine (res_lit _ _ _ _).mono ?_; rintro e w5 ⟨rfl, hn5⟩; rw [H3.out]; have hD5 := hD.ext hn5 (fun e => e); have hC5 : Blk w5 (w.heap.size + 1 + 1) 35 #[.int .i64 0, .int .i64 0] := hC.ext (S := Nothing) (by (repeat' (first | (with_reducible assumption) | (with_reducible exact Ext.refl _ _) | (with_reducible refine Ext.alloc ?_ _) | (with_reducible refine Ext.drew ?_) | (with_reducible refine Ext.drewN ?_ _) | (with_reducible refine Ext.setCell ?_ (.inl (by simp only [World.size_alloc, World.size_setCell, World.size_drew] <;> omega)) _) | (with_reducible refine Ext.trans ?_ (by assumption) (fun _ _ e => e))))) (fun e => e); have d0 : w5.cell? ⟨wn.heap.size, 0, none⟩ = some (.int .i64 (a1 + b1)) := hD5.cell 0; have d1 : w5.cell? ⟨wn.heap.size, 1, none⟩ = some (.int .i64 (a2 + b2)) := hD5.cell 1; have r0 : w5.cell? ⟨w.heap.size + 1 + 1, 0, none⟩ = some (.int .i64 0) := hC5.cell 0; have r1 : w5.cell? ⟨w.heap.size + 1 + 1, 1, none⟩ = some (.int .i64 0) := hC5.cell 1; have f0 : w5.frozen? ⟨w.heap.size + 1 + 1, 0, none⟩ = false := hC5.frozen 0; have f1 : w5.frozen? ⟨w.heap.size + 1 + 1, 1, none⟩ = false := hC5.frozen 1)
        refine bodyPost_ret (results_cell_tmp rfl STRes (g := w.heap.size + 1 + 1) rfl ((hC5.set_ 0 _).set_ 1 _) rfl) rfl ⟨by rw [H.out]; rfl, ?_⟩
        have := hx0.size
        (repeat' (first | (with_reducible assumption) | (with_reducible exact Ext.refl _ _) | (with_reducible refine Ext.alloc ?_ _) | (with_reducible refine Ext.drew ?_) | (with_reducible refine Ext.drewN ?_ _) | (with_reducible refine Ext.setCell ?_ (.inl (by simp only [World.size_alloc, World.size_setCell, World.size_drew] <;> omega)) _) | (with_reducible refine Ext.trans ?_ (by assumption) (fun _ _ e => e))))
end Go.Proofs.YtfmkoemogicdkaaGreat
