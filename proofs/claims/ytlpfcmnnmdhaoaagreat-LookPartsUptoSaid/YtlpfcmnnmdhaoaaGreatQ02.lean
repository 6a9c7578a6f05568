/- Parts of the proof: Spec Spec2 Slot DiffF SchedR RefJob CopyL -/
import Derived.Test.YtlpfcmnnmdhaoaaGreatRows
import Derived.Deep.Cut
import Derived.Test.YtlpfcmnnmdhaoaaGreatQ01
namespace Go.Proofs.YtlpfcmnnmdhaoaaGreat
set_option linter.unusedVariables false
set_option linter.unusedSimpArgs false
set_option linter.unusedSectionVars false
section
open Go.RowKit
def inB (n a b : Int) : Bool := decide (a ≤ n) && decide (n ≤ b)
def resB (r : ResD) (m : Int) : Bool := inB r.cpu 0 m && inB r.mem 0 m
def most : Int := 1152921504606846976
def addF (a b : ResD) : Option ResD := if resB a most && resB b most && resB ⟨a.cpu + b.cpu, a.mem + b.mem⟩ most then some ⟨a.cpu + b.cpu, a.mem + b.mem⟩ else none
def fitsO (o : Option ResD) (m : ResD) : Bool := match o with | some s => decide (s.cpu ≤ m.cpu) && decide (s.mem ≤ m.mem) | none => false
def fitsF (u a m : ResD) : Bool := fitsO (addF u a) m
def ResD.v (r : ResD) : Value := .agg #[.int .i64 r.cpu, .int .i64 r.mem]
def optR (o : Option ResD) : ResD := o.getD ⟨0, 0⟩
theorem within_any (n a b : Int) (w : World) : Calls Tryz.prog 84 #[.int .i64 n, .int .i64 a, .int .i64 b] w fun e w' => e = .returned (.bool (inB n a b)) ∧ w = w' := by
 by_cases h1 : a ≤ n
 ·by_cases h2 : n ≤ b
  ·have e : inB n a b = true := by simp [inB, h1, h2]
   have H := Lib.hid e
   clear e
   go_enter Tryz.func84, Tryz.ntmps84
   go_wp2
   go_ret
   exact ⟨by rw [H.out]; rfl, rfl⟩
  ·have e : inB n a b = false := by simp [inB, h2]
   have H := Lib.hid e
   clear e
   go_enter Tryz.func84, Tryz.ntmps84
   go_wp2
   go_ret
   exact ⟨by rw [H.out]; rfl, rfl⟩
 ·have e : inB n a b = false := by simp [inB, h1]
  have H := Lib.hid e
  clear e
  go_enter Tryz.func84, Tryz.ntmps84
  go_wp2
  go_ret
  exact ⟨by rw [H.out]; rfl, rfl⟩
theorem ok1_any (n m : Int) (bx : Nat) (w : World) (hb : Blk w bx 3 #[.int .i64 m]) : Calls Tryz.prog 83 #[.int .i64 n, .pointer (some ⟨bx, 0, none⟩)] w fun e w' => e = .returned (.bool (inB n 0 m)) ∧ w = w' := by
 have q : w.cell? ⟨bx, 0, none⟩ = some (.int .i64 m) := hb.cell 0
 go_enter Tryz.func83, Tryz.ntmps83
 go_wp2_with (go_at_call 84; refine (within_any _ _ _ _).mono ?_; rintro e w' ⟨rfl, rfl⟩)
 go_ret
 exact ⟨rfl, rfl⟩
theorem res_any (r : ResD) (m : Int) (w : World) : Calls Tryz.prog 66 #[r.v, .int .i64 m] w fun e w' => e = .returned (.bool (resB r m)) ∧ Ext Nothing w w' := by
 obtain ⟨c, d⟩ := r
 have hx : Ext Nothing w ((w.alloc (.cells #[.int .i64 c, .int .i64 d] 41)).alloc (.cells #[.int .i64 m] 3)) := ((Ext.refl _ _).alloc _).alloc _
 have hb : Blk ((w.alloc (.cells #[.int .i64 c, .int .i64 d] 41)).alloc (.cells #[.int .i64 m] 3)) (w.heap.size + 1) 3 #[.int .i64 m] := Blk.new' _ _ _ (by simp)
 simp only [ResD.v]
 cases h1 : inB c 0 m with
 | true =>
  have e : resB ⟨c, d⟩ m = inB d 0 m := by simp [resB, h1]
  have H := Lib.hid e
  have H1 := Lib.hid h1
  clear e h1
  go_enter Tryz.func66, Tryz.ntmps66
  go_wp2_with (go_at_call 83; refine (ok1_any _ m _ _ hb).mono ?_; rintro e w' ⟨rfl, rfl⟩; try rw [H1.out])
  go_ret
  exact ⟨by rw [H.out]; rfl, hx⟩
 | false =>
  have e : resB ⟨c, d⟩ m = false := by simp [resB, h1]
  have H := Lib.hid e
  have H1 := Lib.hid h1
  clear e h1
  go_enter Tryz.func66, Tryz.ntmps66
  go_wp2_with (go_at_call 83; refine (ok1_any _ m _ _ hb).mono ?_; rintro e w' ⟨rfl, rfl⟩; try rw [H1.out])
  go_ret
  exact ⟨by rw [H.out]; rfl, hx⟩
theorem resB_range {r : ResD} {m : Int} (h : resB r m = true) : 0 ≤ r.cpu ∧ r.cpu ≤ m ∧ 0 ≤ r.mem ∧ r.mem ≤ m := by
 simp [resB, inB] at h; omega
theorem STRes : StructT Tryz.prog 41 2 := .of (by kernel_rfl)
theorem res_lit (c d m : Int) (w : World) : Calls Tryz.prog 66 #[.agg #[.int .i64 c, .int .i64 d], .int .i64 m] w fun e w' => e = .returned (.bool (resB ⟨c, d⟩ m)) ∧ Ext Nothing w w' := res_any ⟨c, d⟩ m w
set_option maxHeartbeats 1000000 in
theorem add_any (a b : ResD) (w : World) : Calls Tryz.prog 37 #[a.v, b.v] w fun e w' => e = .returned (.tuple #[(optR (addF a b)).v, .bool (addF a b).isSome]) ∧ Ext Nothing w w' := by
 obtain ⟨a1, a2⟩ := a
 obtain ⟨b1, b2⟩ := b
 simp only [ResD.v]
 have hx0 : Ext Nothing w (((w.alloc (.cells #[.int .i64 a1, .int .i64 a2] 41)).alloc (.cells #[.int .i64 b1, .int .i64 b2] 41)).alloc (.cells #[.int .i64 0, .int .i64 0] 41)) := Ext.auto
 have hA : Blk (((w.alloc (.cells #[.int .i64 a1, .int .i64 a2] 41)).alloc (.cells #[.int .i64 b1, .int .i64 b2] 41)).alloc (.cells #[.int .i64 0, .int .i64 0] 41)) w.heap.size 41 #[.int .i64 a1, .int .i64 a2] := (Blk.new w _ _).e0 Ext.auto
 have hB : Blk (((w.alloc (.cells #[.int .i64 a1, .int .i64 a2] 41)).alloc (.cells #[.int .i64 b1, .int .i64 b2] 41)).alloc (.cells #[.int .i64 0, .int .i64 0] 41)) (w.heap.size + 1) 41 #[.int .i64 b1, .int .i64 b2] := (Blk.new' (w.alloc (.cells #[.int .i64 a1, .int .i64 a2] 41)) _ _ (by simp)).e0 Ext.auto
 have hC : Blk (((w.alloc (.cells #[.int .i64 a1, .int .i64 a2] 41)).alloc (.cells #[.int .i64 b1, .int .i64 b2] 41)).alloc (.cells #[.int .i64 0, .int .i64 0] 41)) (w.heap.size + 1 + 1) 41 #[.int .i64 0, .int .i64 0] := Blk.new' _ _ _ (by simp)
 cases h1 : resB ⟨a1, a2⟩ 1152921504606846976 with
 | false =>
  have e : addF ⟨a1, a2⟩ ⟨b1, b2⟩ = none := by simp [addF, most, h1]
  have H := Lib.hid e
  have H1 := Lib.hid h1
  clear e h1
  go_enter Tryz.func37, Tryz.ntmps37
  go_upto_region 1 with (fail)
  generalize ((w.alloc (.cells #[.int .i64 a1, .int .i64 a2] 41)).alloc (.cells #[.int .i64 b1, .int .i64 b2] 41)).alloc (.cells #[.int .i64 0, .int .i64 0] 41) = W0 at hx0 hA hB hC ⊢
  have x0 : W0.cell? ⟨w.heap.size, 0, none⟩ = some (.int .i64 a1) := hA.cell 0
  have x1 : W0.cell? ⟨w.heap.size, 1, none⟩ = some (.int .i64 a2) := hA.cell 1
  go_wp2_with (go_at_call 66; refine (res_lit _ _ _ _).mono ?_; rintro e wn ⟨rfl, hn⟩; (try rw [H1.out]); have hA1 : Blk wn w.heap.size 41 #[.int .i64 a1, .int .i64 a2] := hA.ext (S := Nothing) (by (with_reducible repeat' first | assumption | exact Ext.refl _ _ | refine Ext.alloc ?_ _ | refine Ext.drew ?_ | refine Ext.drewN ?_ _ | refine xS ?_ (by simp only [World.size_alloc, World.size_setCell, World.size_drew] <;> omega) _ | refine Ext.tr ?_ (by assumption))) (fun e => e); have hB1 : Blk wn (w.heap.size + 1) 41 #[.int .i64 b1, .int .i64 b2] := hB.ext (S := Nothing) (by (with_reducible repeat' first | assumption | exact Ext.refl _ _ | refine Ext.alloc ?_ _ | refine Ext.drew ?_ | refine Ext.drewN ?_ _ | refine xS ?_ (by simp only [World.size_alloc, World.size_setCell, World.size_drew] <;> omega) _ | refine Ext.tr ?_ (by assumption))) (fun e => e); have hC1 : Blk wn (w.heap.size + 1 + 1) 41 #[.int .i64 0, .int .i64 0] := hC.ext (S := Nothing) (by (with_reducible repeat' first | assumption | exact Ext.refl _ _ | refine Ext.alloc ?_ _ | refine Ext.drew ?_ | refine Ext.drewN ?_ _ | refine xS ?_ (by simp only [World.size_alloc, World.size_setCell, World.size_drew] <;> omega) _ | refine Ext.tr ?_ (by assumption))) (fun e => e); have p0 : wn.cell? ⟨w.heap.size, 0, none⟩ = some (.int .i64 a1) := hA1.cell 0; have p1 : wn.cell? ⟨w.heap.size, 1, none⟩ = some (.int .i64 a2) := hA1.cell 1; have q0 : wn.cell? ⟨w.heap.size + 1, 0, none⟩ = some (.int .i64 b1) := hB1.cell 0; have q1 : wn.cell? ⟨w.heap.size + 1, 1, none⟩ = some (.int .i64 b2) := hB1.cell 1; have r0 : wn.cell? ⟨w.heap.size + 1 + 1, 0, none⟩ = some (.int .i64 0) := hC1.cell 0; have r1 : wn.cell? ⟨w.heap.size + 1 + 1, 1, none⟩ = some (.int .i64 0) := hC1.cell 1; have f0 : wn.frozen? ⟨w.heap.size + 1 + 1, 0, none⟩ = false := hC1.frozen 0; have f1 : wn.frozen? ⟨w.heap.size + 1 + 1, 1, none⟩ = false := hC1.frozen 1)
  refine bodyPost_ret (results_cell_tmp rfl STRes (g := w.heap.size + 1 + 1) rfl ((hC1.set_ 0 _).set_ 1 _) rfl) rfl ⟨by rw [H.out]; rfl, ?_⟩
  have := hx0.size
  (with_reducible repeat' first | assumption | exact Ext.refl _ _ | refine Ext.alloc ?_ _ | refine Ext.drew ?_ | refine Ext.drewN ?_ _ | refine xS ?_ (by simp only [World.size_alloc, World.size_setCell, World.size_drew] <;> omega) _ | refine Ext.tr ?_ (by assumption))
 | true =>
  cases h2 : resB ⟨b1, b2⟩ 1152921504606846976 with
  | false =>
   have e : addF ⟨a1, a2⟩ ⟨b1, b2⟩ = none := by simp [addF, most, h2]
   have H := Lib.hid e
   have H1 := Lib.hid h1
   have H2 := Lib.hid h2
   clear e h1 h2
   go_enter Tryz.func37, Tryz.ntmps37
   go_upto_region 1 with (fail)
   generalize ((w.alloc (.cells #[.int .i64 a1, .int .i64 a2] 41)).alloc (.cells #[.int .i64 b1, .int .i64 b2] 41)).alloc (.cells #[.int .i64 0, .int .i64 0] 41) = W0 at hx0 hA hB hC ⊢
   have x0 : W0.cell? ⟨w.heap.size, 0, none⟩ = some (.int .i64 a1) := hA.cell 0
   have x1 : W0.cell? ⟨w.heap.size, 1, none⟩ = some (.int .i64 a2) := hA.cell 1
   go_wp2_with (go_at_call 66; refine (res_lit _ _ _ _).mono ?_; rintro e wn ⟨rfl, hn⟩; (try rw [H1.out]); (try rw [H2.out]); have hA1 : Blk wn w.heap.size 41 #[.int .i64 a1, .int .i64 a2] := hA.ext (S := Nothing) (by (with_reducible repeat' first | assumption | exact Ext.refl _ _ | refine Ext.alloc ?_ _ | refine Ext.drew ?_ | refine Ext.drewN ?_ _ | refine xS ?_ (by simp only [World.size_alloc, World.size_setCell, World.size_drew] <;> omega) _ | refine Ext.tr ?_ (by assumption))) (fun e => e); have hB1 : Blk wn (w.heap.size + 1) 41 #[.int .i64 b1, .int .i64 b2] := hB.ext (S := Nothing) (by (with_reducible repeat' first | assumption | exact Ext.refl _ _ | refine Ext.alloc ?_ _ | refine Ext.drew ?_ | refine Ext.drewN ?_ _ | refine xS ?_ (by simp only [World.size_alloc, World.size_setCell, World.size_drew] <;> omega) _ | refine Ext.tr ?_ (by assumption))) (fun e => e); have hC1 : Blk wn (w.heap.size + 1 + 1) 41 #[.int .i64 0, .int .i64 0] := hC.ext (S := Nothing) (by (with_reducible repeat' first | assumption | exact Ext.refl _ _ | refine Ext.alloc ?_ _ | refine Ext.drew ?_ | refine Ext.drewN ?_ _ | refine xS ?_ (by simp only [World.size_alloc, World.size_setCell, World.size_drew] <;> omega) _ | refine Ext.tr ?_ (by assumption))) (fun e => e); have p0 : wn.cell? ⟨w.heap.size, 0, none⟩ = some (.int .i64 a1) := hA1.cell 0; have p1 : wn.cell? ⟨w.heap.size, 1, none⟩ = some (.int .i64 a2) := hA1.cell 1; have q0 : wn.cell? ⟨w.heap.size + 1, 0, none⟩ = some (.int .i64 b1) := hB1.cell 0; have q1 : wn.cell? ⟨w.heap.size + 1, 1, none⟩ = some (.int .i64 b2) := hB1.cell 1; have r0 : wn.cell? ⟨w.heap.size + 1 + 1, 0, none⟩ = some (.int .i64 0) := hC1.cell 0; have r1 : wn.cell? ⟨w.heap.size + 1 + 1, 1, none⟩ = some (.int .i64 0) := hC1.cell 1; have f0 : wn.frozen? ⟨w.heap.size + 1 + 1, 0, none⟩ = false := hC1.frozen 0; have f1 : wn.frozen? ⟨w.heap.size + 1 + 1, 1, none⟩ = false := hC1.frozen 1)
   refine bodyPost_ret (results_cell_tmp rfl STRes (g := w.heap.size + 1 + 1) rfl ((hC1.set_ 0 _).set_ 1 _) rfl) rfl ⟨by rw [H.out]; rfl, ?_⟩
   have := hx0.size
   (with_reducible repeat' first | assumption | exact Ext.refl _ _ | refine Ext.alloc ?_ _ | refine Ext.drew ?_ | refine Ext.drewN ?_ _ | refine xS ?_ (by simp only [World.size_alloc, World.size_setCell, World.size_drew] <;> omega) _ | refine Ext.tr ?_ (by assumption))
  | true =>
   obtain ⟨k1, k2, k3, k4⟩ := resB_range h1
   obtain ⟨l1, l2, l3, l4⟩ := resB_range h2
   simp only at k1 k2 k3 k4 l1 l2 l3 l4
   cases h3 : resB ⟨a1 + b1, a2 + b2⟩ 1152921504606846976 with
   | false =>
    have e : addF ⟨a1, a2⟩ ⟨b1, b2⟩ = none := by simp [addF, most, h1, h2, h3]
    have H := Lib.hid e
    have H1 := Lib.hid h1
    have H2 := Lib.hid h2
    have H3 := Lib.hid h3
    clear e h1 h2 h3
    go_enter Tryz.func37, Tryz.ntmps37
    go_upto_region 1 with (fail)
    generalize ((w.alloc (.cells #[.int .i64 a1, .int .i64 a2] 41)).alloc (.cells #[.int .i64 b1, .int .i64 b2] 41)).alloc (.cells #[.int .i64 0, .int .i64 0] 41) = W0 at hx0 hA hB hC ⊢
    have x0 : W0.cell? ⟨w.heap.size, 0, none⟩ = some (.int .i64 a1) := hA.cell 0
    have x1 : W0.cell? ⟨w.heap.size, 1, none⟩ = some (.int .i64 a2) := hA.cell 1
    go_upto_region 4 with (go_at_call 66; refine (res_lit _ _ _ _).mono ?_; rintro e wn ⟨rfl, hn⟩; (try rw [H1.out]); (try rw [H2.out]); have hA1 : Blk wn w.heap.size 41 #[.int .i64 a1, .int .i64 a2] := hA.ext (S := Nothing) (by (with_reducible repeat' first | assumption | exact Ext.refl _ _ | refine Ext.alloc ?_ _ | refine Ext.drew ?_ | refine Ext.drewN ?_ _ | refine xS ?_ (by simp only [World.size_alloc, World.size_setCell, World.size_drew] <;> omega) _ | refine Ext.tr ?_ (by assumption))) (fun e => e); have hB1 : Blk wn (w.heap.size + 1) 41 #[.int .i64 b1, .int .i64 b2] := hB.ext (S := Nothing) (by (with_reducible repeat' first | assumption | exact Ext.refl _ _ | refine Ext.alloc ?_ _ | refine Ext.drew ?_ | refine Ext.drewN ?_ _ | refine xS ?_ (by simp only [World.size_alloc, World.size_setCell, World.size_drew] <;> omega) _ | refine Ext.tr ?_ (by assumption))) (fun e => e); have hC1 : Blk wn (w.heap.size + 1 + 1) 41 #[.int .i64 0, .int .i64 0] := hC.ext (S := Nothing) (by (with_reducible repeat' first | assumption | exact Ext.refl _ _ | refine Ext.alloc ?_ _ | refine Ext.drew ?_ | refine Ext.drewN ?_ _ | refine xS ?_ (by simp only [World.size_alloc, World.size_setCell, World.size_drew] <;> omega) _ | refine Ext.tr ?_ (by assumption))) (fun e => e); have p0 : wn.cell? ⟨w.heap.size, 0, none⟩ = some (.int .i64 a1) := hA1.cell 0; have p1 : wn.cell? ⟨w.heap.size, 1, none⟩ = some (.int .i64 a2) := hA1.cell 1; have q0 : wn.cell? ⟨w.heap.size + 1, 0, none⟩ = some (.int .i64 b1) := hB1.cell 0; have q1 : wn.cell? ⟨w.heap.size + 1, 1, none⟩ = some (.int .i64 b2) := hB1.cell 1; have r0 : wn.cell? ⟨w.heap.size + 1 + 1, 0, none⟩ = some (.int .i64 0) := hC1.cell 0; have r1 : wn.cell? ⟨w.heap.size + 1 + 1, 1, none⟩ = some (.int .i64 0) := hC1.cell 1; have f0 : wn.frozen? ⟨w.heap.size + 1 + 1, 0, none⟩ = false := hC1.frozen 0; have f1 : wn.frozen? ⟨w.heap.size + 1 + 1, 1, none⟩ = false := hC1.frozen 1)
    have hD : Blk (wn.alloc (.cells #[.int .i64 (a1 + b1), .int .i64 (a2 + b2)] 41)) wn.heap.size 41 #[.int .i64 (a1 + b1), .int .i64 (a2 + b2)] := Blk.new _ _ _
    have hn4 : Ext Nothing wn (wn.alloc (.cells #[.int .i64 (a1 + b1), .int .i64 (a2 + b2)] 41)) := Ext.auto
    generalize wn.alloc (.cells #[.int .i64 (a1 + b1), .int .i64 (a2 + b2)] 41) = W4 at hD hn4 ⊢
    have d0 : W4.cell? ⟨wn.heap.size, 0, none⟩ = some (.int .i64 (a1 + b1)) := hD.cell 0
    have d1 : W4.cell? ⟨wn.heap.size, 1, none⟩ = some (.int .i64 (a2 + b2)) := hD.cell 1
    go_wp2_with (go_at_call 66; refine (res_lit _ _ _ _).mono ?_; rintro e w5 ⟨rfl, hn5⟩; rw [H3.out]; have hD5 := hD.e0 hn5; have hC5 : Blk w5 (w.heap.size + 1 + 1) 41 #[.int .i64 0, .int .i64 0] := hC.ext (S := Nothing) (by (with_reducible repeat' first | assumption | exact Ext.refl _ _ | refine Ext.alloc ?_ _ | refine Ext.drew ?_ | refine Ext.drewN ?_ _ | refine xS ?_ (by simp only [World.size_alloc, World.size_setCell, World.size_drew] <;> omega) _ | refine Ext.tr ?_ (by assumption))) (fun e => e); have d0 : w5.cell? ⟨wn.heap.size, 0, none⟩ = some (.int .i64 (a1 + b1)) := hD5.cell 0; have d1 : w5.cell? ⟨wn.heap.size, 1, none⟩ = some (.int .i64 (a2 + b2)) := hD5.cell 1; have r0 : w5.cell? ⟨w.heap.size + 1 + 1, 0, none⟩ = some (.int .i64 0) := hC5.cell 0; have r1 : w5.cell? ⟨w.heap.size + 1 + 1, 1, none⟩ = some (.int .i64 0) := hC5.cell 1; have f0 : w5.frozen? ⟨w.heap.size + 1 + 1, 0, none⟩ = false := hC5.frozen 0; have f1 : w5.frozen? ⟨w.heap.size + 1 + 1, 1, none⟩ = false := hC5.frozen 1)
    refine bodyPost_ret (results_cell_tmp rfl STRes (g := w.heap.size + 1 + 1) rfl ((hC5.set_ 0 _).set_ 1 _) rfl) rfl ⟨by rw [H.out]; rfl, ?_⟩
    have := hx0.size
    (with_reducible repeat' first | assumption | exact Ext.refl _ _ | refine Ext.alloc ?_ _ | refine Ext.drew ?_ | refine Ext.drewN ?_ _ | refine xS ?_ (by simp only [World.size_alloc, World.size_setCell, World.size_drew] <;> omega) _ | refine Ext.tr ?_ (by assumption))
   | true =>
    have e : addF ⟨a1, a2⟩ ⟨b1, b2⟩ = some ⟨a1 + b1, a2 + b2⟩ := by simp [addF, most, h1, h2, h3]
    have H := Lib.hid e
    have H1 := Lib.hid h1
    have H2 := Lib.hid h2
    have H3 := Lib.hid h3
    clear e h1 h2 h3
    go_enter Tryz.func37, Tryz.ntmps37
    go_upto_region 1 with (fail)
    generalize ((w.alloc (.cells #[.int .i64 a1, .int .i64 a2] 41)).alloc (.cells #[.int .i64 b1, .int .i64 b2] 41)).alloc (.cells #[.int .i64 0, .int .i64 0] 41) = W0 at hx0 hA hB hC ⊢
    have x0 : W0.cell? ⟨w.heap.size, 0, none⟩ = some (.int .i64 a1) := hA.cell 0
    have x1 : W0.cell? ⟨w.heap.size, 1, none⟩ = some (.int .i64 a2) := hA.cell 1
    go_upto_region 4 with (go_at_call 66; refine (res_lit _ _ _ _).mono ?_; rintro e wn ⟨rfl, hn⟩; (try rw [H1.out]); (try rw [H2.out]); have hA1 : Blk wn w.heap.size 41 #[.int .i64 a1, .int .i64 a2] := hA.ext (S := Nothing) (by (with_reducible repeat' first | assumption | exact Ext.refl _ _ | refine Ext.alloc ?_ _ | refine Ext.drew ?_ | refine Ext.drewN ?_ _ | refine xS ?_ (by simp only [World.size_alloc, World.size_setCell, World.size_drew] <;> omega) _ | refine Ext.tr ?_ (by assumption))) (fun e => e); have hB1 : Blk wn (w.heap.size + 1) 41 #[.int .i64 b1, .int .i64 b2] := hB.ext (S := Nothing) (by (with_reducible repeat' first | assumption | exact Ext.refl _ _ | refine Ext.alloc ?_ _ | refine Ext.drew ?_ | refine Ext.drewN ?_ _ | refine xS ?_ (by simp only [World.size_alloc, World.size_setCell, World.size_drew] <;> omega) _ | refine Ext.tr ?_ (by assumption))) (fun e => e); have hC1 : Blk wn (w.heap.size + 1 + 1) 41 #[.int .i64 0, .int .i64 0] := hC.ext (S := Nothing) (by (with_reducible repeat' first | assumption | exact Ext.refl _ _ | refine Ext.alloc ?_ _ | refine Ext.drew ?_ | refine Ext.drewN ?_ _ | refine xS ?_ (by simp only [World.size_alloc, World.size_setCell, World.size_drew] <;> omega) _ | refine Ext.tr ?_ (by assumption))) (fun e => e); have p0 : wn.cell? ⟨w.heap.size, 0, none⟩ = some (.int .i64 a1) := hA1.cell 0; have p1 : wn.cell? ⟨w.heap.size, 1, none⟩ = some (.int .i64 a2) := hA1.cell 1; have q0 : wn.cell? ⟨w.heap.size + 1, 0, none⟩ = some (.int .i64 b1) := hB1.cell 0; have q1 : wn.cell? ⟨w.heap.size + 1, 1, none⟩ = some (.int .i64 b2) := hB1.cell 1; have r0 : wn.cell? ⟨w.heap.size + 1 + 1, 0, none⟩ = some (.int .i64 0) := hC1.cell 0; have r1 : wn.cell? ⟨w.heap.size + 1 + 1, 1, none⟩ = some (.int .i64 0) := hC1.cell 1; have f0 : wn.frozen? ⟨w.heap.size + 1 + 1, 0, none⟩ = false := hC1.frozen 0; have f1 : wn.frozen? ⟨w.heap.size + 1 + 1, 1, none⟩ = false := hC1.frozen 1)
    have hD : Blk (wn.alloc (.cells #[.int .i64 (a1 + b1), .int .i64 (a2 + b2)] 41)) wn.heap.size 41 #[.int .i64 (a1 + b1), .int .i64 (a2 + b2)] := Blk.new _ _ _
    have hn4 : Ext Nothing wn (wn.alloc (.cells #[.int .i64 (a1 + b1), .int .i64 (a2 + b2)] 41)) := Ext.auto
    generalize wn.alloc (.cells #[.int .i64 (a1 + b1), .int .i64 (a2 + b2)] 41) = W4 at hD hn4 ⊢
    have d0 : W4.cell? ⟨wn.heap.size, 0, none⟩ = some (.int .i64 (a1 + b1)) := hD.cell 0
    have d1 : W4.cell? ⟨wn.heap.size, 1, none⟩ = some (.int .i64 (a2 + b2)) := hD.cell 1
    go_wp2_with (go_at_call 66; refine (res_lit _ _ _ _).mono ?_; rintro e w5 ⟨rfl, hn5⟩; rw [H3.out]; have hD5 := hD.e0 hn5; have hC5 : Blk w5 (w.heap.size + 1 + 1) 41 #[.int .i64 0, .int .i64 0] := hC.ext (S := Nothing) (by (with_reducible repeat' first | assumption | exact Ext.refl _ _ | refine Ext.alloc ?_ _ | refine Ext.drew ?_ | refine Ext.drewN ?_ _ | refine xS ?_ (by simp only [World.size_alloc, World.size_setCell, World.size_drew] <;> omega) _ | refine Ext.tr ?_ (by assumption))) (fun e => e); have d0 : w5.cell? ⟨wn.heap.size, 0, none⟩ = some (.int .i64 (a1 + b1)) := hD5.cell 0; have d1 : w5.cell? ⟨wn.heap.size, 1, none⟩ = some (.int .i64 (a2 + b2)) := hD5.cell 1; have r0 : w5.cell? ⟨w.heap.size + 1 + 1, 0, none⟩ = some (.int .i64 0) := hC5.cell 0; have r1 : w5.cell? ⟨w.heap.size + 1 + 1, 1, none⟩ = some (.int .i64 0) := hC5.cell 1; have f0 : w5.frozen? ⟨w.heap.size + 1 + 1, 0, none⟩ = false := hC5.frozen 0; have f1 : w5.frozen? ⟨w.heap.size + 1 + 1, 1, none⟩ = false := hC5.frozen 1)
    refine bodyPost_ret (results_cell_tmp rfl STRes (g := w.heap.size + 1 + 1) rfl ((hC5.set_ 0 _).set_ 1 _) rfl) rfl ⟨by rw [H.out]; rfl, ?_⟩
    have := hx0.size
    (with_reducible repeat' first | assumption | exact Ext.refl _ _ | refine Ext.alloc ?_ _ | refine Ext.drew ?_ | refine Ext.drewN ?_ _ | refine xS ?_ (by simp only [World.size_alloc, World.size_setCell, World.size_drew] <;> omega) _ | refine Ext.tr ?_ (by assumption))
end
section
open Go.RowKit
theorem add_lit (a b c d : Int) (w : World) : Calls Tryz.prog 37 #[.agg #[.int .i64 a, .int .i64 b], .agg #[.int .i64 c, .int .i64 d]] w fun e w' =>
  e = .returned (.tuple #[.agg #[.int .i64 (optR (addF ⟨a, b⟩ ⟨c, d⟩)).cpu, .int .i64 (optR (addF ⟨a, b⟩ ⟨c, d⟩)).mem], .bool (addF ⟨a, b⟩ ⟨c, d⟩).isSome]) ∧ Ext Nothing w w' := add_any ⟨a, b⟩ ⟨c, d⟩ w
def overB (a : AllocD) : Bool := decide (3 ≤ a.state)
theorem over_any (cs : Array Value) (st : Int) (w : World) (hs : cs.size = 11) (hst : cs[10]? = some (.int .i64 st)) :
  Calls Tryz.prog 20 #[.agg cs] w fun e w' => e = .returned (.bool (decide (3 ≤ st))) ∧ Ext Nothing w w' := by
 have hB : Blk (w.alloc (.cells cs 58)) w.heap.size 58 cs := Blk.new _ _ _
 have q : (w.alloc (.cells cs 58)).cell? ⟨w.heap.size, 10, none⟩ = some (.int .i64 st) := (hB.cell 10).trans hst
 have hx : Ext Nothing w (w.alloc (.cells cs 58)) := Ext.auto
 clear hst
 go_enter Tryz.func20, Tryz.ntmps20
 go_wp2
 go_ret
 exact ⟨rfl, hx⟩
end
section
open Go.RowKit
def slotB (j g i : Int) (a : AllocD) : Bool := a.job == j && a.group == g && a.index == i && !overB a
end
section
open Go.RowKit
structure SlotD where
 group : Int
 index : Int
deriving DecidableEq
def SlotD.cells (x : SlotD) : List Value := [.int .i64 x.group, .int .i64 x.index]
def countF (g : GroupD) : Nat := (min g.count 4).toNat
def big : ResD := ⟨1152921504606846976, 1152921504606846976⟩
def useStep (node : Int) (o : Option ResD) (a : AllocD) : Option ResD := match o with | none => none | some r => if a.node == node && !overB a then addF r a.ask else some r
def usedS (l : List AllocD) (node : Int) : ResD := (l.foldl (useStep node) (some ⟨0, 0⟩)).getD big
def moreStep (node : Int) (o : Option ResD) (a : AllocD) : Option ResD := match o with | none => none | some r => if a.node == node then addF r a.ask else some r
def usedM (l more : List AllocD) (node : Int) : Option ResD := more.foldl (moreStep node) (some (usedS l node))
def mayF (ns : List NodD) (l more : List AllocD) (node : Int) (ask : ResD) : Bool :=
 match ns.find? (fun n => n.id == node) with
 | none => false
 | some n => n.up && !n.drain && (match usedM l more node with | some r => fitsF r ask n.cap | none => false)
def leftF (n : NodD) (r ask : ResD) : Int := wrap64 (wrap64 (wrap64 (n.cap.cpu - r.cpu) - ask.cpu) + wrap64 (wrap64 (n.cap.mem - r.mem) - ask.mem))
def bestStep (ns : List NodD) (l more : List AllocD) (ask : ResD) (o : Option (Int × Int)) (x : NodD) : Option (Int × Int) :=
 if mayF ns l more x.id ask then
  match ns.find? (fun n => n.id == x.id) with
  | none => o
  | some n =>
   let left := leftF n (optR (usedM l more n.id)) ask
   match o with
   | none => some (n.id, left)
   | some b => if left < b.2 || (left == b.2 && decide (n.id < b.1)) then some (n.id, left) else some b
 else o
def bestF (ns : List NodD) (l more : List AllocD) (ask : ResD) : Option (Int × Int) := ns.foldl (bestStep ns l more ask) none
structure PlanD where
 job : Int
 ver : Int
 index : Int
 stops : List Int
 places : List AllocD
 blocked : Bool
deriving DecidableEq
def askAt (j : JobD) (x : SlotD) : ResD := match j.groups[x.group.toNat]? with | some g => g.ask | none => ⟨0, 0⟩
def nodeFor (ns : List NodD) (l more : List AllocD) (j : JobD) (x : SlotD) : Option Int :=
 if j.ty = 3 then (if mayF ns l more x.index (askAt j x) then some x.index else none) else (bestF ns l more (askAt j x)).map (·.1)
def epochAt (ns : List NodD) (node : Int) : Int := match ns.find? (fun n => n.id == node) with | some n => n.epoch | none => 0
def placeOf (ns : List NodD) (j : JobD) (x : SlotD) (node : Int) : AllocD := ⟨0, j.id, j.ver, x.group, x.index, node, epochAt ns node, askAt j x, false, 0⟩
def placeStep (ns : List NodD) (l : List AllocD) (j : JobD) (st : List AllocD × Bool) (x : SlotD) : List AllocD × Bool :=
 match nodeFor ns l st.1 j x with
 | none => (st.1, true)
 | some node => (st.1 ++ [placeOf ns j x node], st.2)
end
section
set_option maxRecDepth 100000
open Go.RowKit Go.ChangeShapes Go.WideShapes Go.ChangeAt
theorem own_ : ownKnob Tryz.prog.godebug = none := by kernel_rfl
theorem in64_of {a : Int} (h : (Lit.int .i64 a).wf = true) : In64 a := by
 simpa [Lit.wf, IntKind.min, IntKind.max, IntKind.signed, IntKind.bits, In64] using h
def GroupD.ok (x : GroupD) : Prop := In64 x.count ∧ In64 x.ask.cpu ∧ In64 x.ask.mem
def NodD.ok (x : NodD) : Prop := In64 x.id ∧ In64 x.cap.cpu ∧ In64 x.cap.mem ∧ In64 x.boot ∧ In64 x.epoch ∧ In64 x.seq
def AllocD.ok (x : AllocD) : Prop := In64 x.id ∧ In64 x.job ∧ In64 x.ver ∧ In64 x.group ∧ In64 x.index ∧ In64 x.node ∧ In64 x.epoch ∧ In64 x.ask.cpu ∧ In64 x.ask.mem ∧ In64 x.state
def EvalD.ok (x : EvalD) : Prop := In64 x.job ∧ In64 x.prio ∧ In64 x.state ∧ In64 x.index
def DepD.ok (x : DepD) : Prop := In64 x.job ∧ In64 x.ver ∧ In64 x.state ∧ In64 x.index
def JobV.ok (w : World) (x : JobV) : Prop := (In64 x.1.id ∧ In64 x.1.ty ∧ In64 x.1.prio ∧ In64 x.1.par ∧ In64 x.1.ver) ∧ ∃ A n c, x.2 = .slice A n c ∧ Sl w 3 A n (x.1.groups.map GroupD.cells) ∧ (∀ g ∈ x.1.groups, g.ok) ∧ n ≤ 1048576
def SeenV.ok (w : World) (x : SeenV) : Prop := (In64 x.1.client ∧ In64 x.1.req ∧ In64 x.1.answer.code ∧ In64 x.1.answer.value) ∧ ∃ A n c, x.2 = .slice A n c ∧ Sl w 11 A n (x.1.answer.allocs.map AllocD.cells) ∧ (∀ a ∈ x.1.answer.allocs, a.ok) ∧ n ≤ 1048576
theorem foGroup : flatOk Tryz.prog 2 116 = true := by kernel_rfl
theorem ftGroup : flatT Tryz.prog 2 116 = [3, 3, 3] := by kernel_rfl
theorem cGroup : Tryz.prog.cellsOf 116 = 3 := by kernel_rfl
section
variable {H : Type} {enc : TypeId × Value → H} {w : World} {base : Nat} {spare : Nat → Bool} {held : Bool}
theorem group_read {B : Nat} (n : Nat) (cs : List Value) (y : DataW H × List MemPlace) (h : DataW.trod enc Tryz.prog w base spare held n 116 cs = some y) (hB : Rows.uptoBulk y.1 ≤ B) : ∃ x : GroupD, cs = x.cells ∧ x.ok := by
 have h1 := leaves (P := Tryz.prog) (d := 2) foGroup h hB
 rw [ftGroup] at h1
 match cs, h1 with
 | [c0, c1, c2], ⟨l0, l1, l2, _⟩ =>
  obtain ⟨a0, rfl, w0⟩ := l0.int Tryz.underlying3
  obtain ⟨a1, rfl, w1⟩ := l1.int Tryz.underlying3
  obtain ⟨a2, rfl, w2⟩ := l2.int Tryz.underlying3
  exact ⟨⟨a0, ⟨a1, a2⟩⟩, rfl, in64_of w0, in64_of w1, in64_of w2⟩
end
section
variable {H : Type} {enc : TypeId × Value → H} {w : World} {base : Nat} {spare : Nat → Bool} {held : Bool}
end
theorem foAlloc : flatOk Tryz.prog 2 58 = true := by kernel_rfl
theorem ftAlloc : flatT Tryz.prog 2 58 = [3, 3, 3, 3, 3, 3, 3, 3, 3, 4, 3] := by kernel_rfl
theorem cAlloc : Tryz.prog.cellsOf 58 = 11 := by kernel_rfl
section
variable {H : Type} {enc : TypeId × Value → H} {w : World} {base : Nat} {spare : Nat → Bool} {held : Bool}
theorem alloc_read {B : Nat} (n : Nat) (cs : List Value) (y : DataW H × List MemPlace) (h : DataW.trod enc Tryz.prog w base spare held n 58 cs = some y) (hB : Rows.uptoBulk y.1 ≤ B) : ∃ x : AllocD, cs = x.cells ∧ x.ok := by
 have h1 := leaves (P := Tryz.prog) (d := 2) foAlloc h hB
 rw [ftAlloc] at h1
 match cs, h1 with
 | [c0, c1, c2, c3, c4, c5, c6, c7, c8, c9, c10], ⟨l0, l1, l2, l3, l4, l5, l6, l7, l8, l9, l10, _⟩ =>
  obtain ⟨a0, rfl, w0⟩ := l0.int Tryz.underlying3
  obtain ⟨a1, rfl, w1⟩ := l1.int Tryz.underlying3
  obtain ⟨a2, rfl, w2⟩ := l2.int Tryz.underlying3
  obtain ⟨a3, rfl, w3⟩ := l3.int Tryz.underlying3
  obtain ⟨a4, rfl, w4⟩ := l4.int Tryz.underlying3
  obtain ⟨a5, rfl, w5⟩ := l5.int Tryz.underlying3
  obtain ⟨a6, rfl, w6⟩ := l6.int Tryz.underlying3
  obtain ⟨a7, rfl, w7⟩ := l7.int Tryz.underlying3
  obtain ⟨a8, rfl, w8⟩ := l8.int Tryz.underlying3
  obtain ⟨a9, rfl⟩ := l9.bool Tryz.underlying4
  obtain ⟨a10, rfl, w10⟩ := l10.int Tryz.underlying3
  exact ⟨⟨a0, a1, a2, a3, a4, a5, a6, ⟨a7, a8⟩, a9, a10⟩, rfl, in64_of w0, in64_of w1, in64_of w2, in64_of w3, in64_of w4, in64_of w5, in64_of w6, in64_of w7, in64_of w8, in64_of w10⟩
end
section
variable {H : Type} {enc : TypeId × Value → H} {w : World} {base : Nat} {spare : Nat → Bool} {held : Bool}
end
section
variable {H : Type} {enc : TypeId × Value → H} {w : World} {base : Nat} {spare : Nat → Bool} {held : Bool}
end
section
variable {H : Type} {enc : TypeId × Value → H} {w : World} {base : Nat} {spare : Nat → Bool} {held : Bool}
end
section
variable {H : Type} {enc : TypeId × Value → H} {w : World} {base : Nat} {spare : Nat → Bool} {held : Bool}
end
structure StoreV where
 index : Int
 next : Int
 AJ : Option Addr
 nJ : Nat
 cJ : Nat
 jobs : List JobV
 AS : Option Addr
 nS : Nat
 cS : Nat
 stable : List JobV
 AN : Option Addr
 nN : Nat
 cN : Nat
 nodes : List NodD
 AA : Option Addr
 nA : Nat
 cA : Nat
 allocs : List AllocD
 AE : Option Addr
 nE : Nat
 cE : Nat
 evals : List EvalD
 AD : Option Addr
 nD : Nat
 cD : Nat
 deploys : List DepD
 AX : Option Addr
 nX : Nat
 cX : Nat
 seen : List SeenV
def StoreV.cells (s : StoreV) : List Value := [.int .i64 s.index, .int .i64 s.next, .slice s.AJ s.nJ s.cJ, .slice s.AS s.nS s.cS, .slice s.AN s.nN s.cN, .slice s.AA s.nA s.cA, .slice s.AE s.nE s.cE, .slice s.AD s.nD s.cD, .slice s.AX s.nX s.cX]
structure StoreV.Ok (w : World) (s : StoreV) : Prop where
 sJ : Sl w 7 s.AJ s.nJ (s.jobs.map JobV.cells)
 kJ : ∀ x ∈ s.jobs, JobV.ok w x
 mJ : s.nJ ≤ 1048576
 sS : Sl w 7 s.AS s.nS (s.stable.map JobV.cells)
 kS : ∀ x ∈ s.stable, JobV.ok w x
 mS : s.nS ≤ 1048576
 sN : Sl w 8 s.AN s.nN (s.nodes.map NodD.cells)
 kN : ∀ x ∈ s.nodes, x.ok
 mN : s.nN ≤ 1048576
 sA : Sl w 11 s.AA s.nA (s.allocs.map AllocD.cells)
 kA : ∀ x ∈ s.allocs, x.ok
 mA : s.nA ≤ 1048576
 sE : Sl w 4 s.AE s.nE (s.evals.map EvalD.cells)
 kE : ∀ x ∈ s.evals, x.ok
 mE : s.nE ≤ 1048576
 sD : Sl w 4 s.AD s.nD (s.deploys.map DepD.cells)
 kD : ∀ x ∈ s.deploys, x.ok
 mD : s.nD ≤ 1048576
 sX : Sl w 5 s.AX s.nX (s.seen.map SeenV.cells)
 kX : ∀ x ∈ s.seen, SeenV.ok w x
 mX : s.nX ≤ 1048576
theorem JobV.ok.ext0 {w w' : World} {x : JobV} (h : JobV.ok w x) (hx : Ext Nothing w w') : JobV.ok w' x := by
 obtain ⟨h0, A, n, c, h1, h2, h3, h4⟩ := h
 exact ⟨h0, A, n, c, h1, h2.ext0 hx, h3, h4⟩
theorem SeenV.ok.ext0 {w w' : World} {x : SeenV} (h : SeenV.ok w x) (hx : Ext Nothing w w') : SeenV.ok w' x := by
 obtain ⟨h0, A, n, c, h1, h2, h3, h4⟩ := h
 exact ⟨h0, A, n, c, h1, h2.ext0 hx, h3, h4⟩
theorem StoreV.Ok.ext0 {w w' : World} {s : StoreV} (h : s.Ok w) (hx : Ext Nothing w w') : s.Ok w' :=
 ⟨h.sJ.ext0 hx, fun x hm => (h.kJ x hm).ext0 hx, h.mJ, h.sS.ext0 hx, fun x hm => (h.kS x hm).ext0 hx, h.mS, h.sN.ext0 hx, h.kN, h.mN, h.sA.ext0 hx, h.kA, h.mA, h.sE.ext0 hx, h.kE, h.mE, h.sD.ext0 hx, h.kD, h.mD, h.sX.ext0 hx, fun x hm => (h.kX x hm).ext0 hx, h.mX⟩
end
section
open Go.RowKit
theorem SRGroup : SliceT Tryz.prog 37 116 3 := .of (by kernel_rfl)
theorem SRJob : SliceT Tryz.prog 23 39 7 := .of (by kernel_rfl)
theorem SRNode : SliceT Tryz.prog 24 43 8 := .of (by kernel_rfl)
theorem SRAlloc : SliceT Tryz.prog 25 58 11 := .of (by kernel_rfl)
theorem SREval : SliceT Tryz.prog 26 76 4 := .of (by kernel_rfl)
theorem SRDeploy : SliceT Tryz.prog 27 97 4 := .of (by kernel_rfl)
theorem STSeen : StructT Tryz.prog 67 5 := .of (by kernel_rfl)
theorem SRSeen : SliceT Tryz.prog 28 67 5 := .of (by kernel_rfl)
theorem cellsOne {α : Type} {f : α → List Value} (hf : ∀ x, (f x).all Value.oneCell' = true) (l : List α) : ∀ y ∈ l.map f, y.all Value.oneCell' = true := fun y hy => by
 obtain ⟨x, _, rfl⟩ := List.mem_map.1 hy
 exact hf x
set_option maxHeartbeats 2000000 in
theorem refJob (x : JobD) (AG : Option Addr) (nG cG : Nat) (w : World) (hG : Sl w 3 AG nG (x.groups.map GroupD.cells)) (hn : nG ≤ 1048576) :
  Calls Tryz.prog 26 #[.agg #[.int .i64 x.id, .int .i64 x.ty, .int .i64 x.prio, .int .i64 x.par, .slice AG nG cG, .int .i64 x.ver, .bool x.stopped]] w fun e w' => ∃ A c, e = .returned (.agg #[.int .i64 x.id, .int .i64 x.ty, .int .i64 x.prio, .int .i64 x.par, .slice A nG c, .int .i64 x.ver, .bool x.stopped]) ∧ w'.ownsRow w.heap.size 116 3 (.slice A nG c) nG (x.groups.flatMap GroupD.cells) ∧ Ext Nothing w w' := by
 have hx0 : Ext Nothing w ((w.alloc (.cells #[.int .i64 x.id, .int .i64 x.ty, .int .i64 x.prio, .int .i64 x.par, .slice AG nG cG, .int .i64 x.ver, .bool x.stopped] 39)).alloc (.cells #[.int .i64 0, .int .i64 0, .int .i64 0, .int .i64 0, .slice none 0 0, .int .i64 0, .bool false] 39)) := Ext.auto
 have hb0 : Blk ((w.alloc (.cells #[.int .i64 x.id, .int .i64 x.ty, .int .i64 x.prio, .int .i64 x.par, .slice AG nG cG, .int .i64 x.ver, .bool x.stopped] 39)).alloc (.cells #[.int .i64 0, .int .i64 0, .int .i64 0, .int .i64 0, .slice none 0 0, .int .i64 0, .bool false] 39)) w.heap.size 39 #[.int .i64 x.id, .int .i64 x.ty, .int .i64 x.prio, .int .i64 x.par, .slice AG nG cG, .int .i64 x.ver, .bool x.stopped] := (Blk.new w _ _).e0 Ext.auto
 have hr0 : Blk ((w.alloc (.cells #[.int .i64 x.id, .int .i64 x.ty, .int .i64 x.prio, .int .i64 x.par, .slice AG nG cG, .int .i64 x.ver, .bool x.stopped] 39)).alloc (.cells #[.int .i64 0, .int .i64 0, .int .i64 0, .int .i64 0, .slice none 0 0, .int .i64 0, .bool false] 39)) (w.heap.size + 1) 39 #[.int .i64 0, .int .i64 0, .int .i64 0, .int .i64 0, .slice none 0 0, .int .i64 0, .bool false] := Blk.new' _ _ _ (by simp)
 have hG2 := hG.ext0 hx0
 have hz : ((w.alloc (.cells #[.int .i64 x.id, .int .i64 x.ty, .int .i64 x.prio, .int .i64 x.par, .slice AG nG cG, .int .i64 x.ver, .bool x.stopped] 39)).alloc (.cells #[.int .i64 0, .int .i64 0, .int .i64 0, .int .i64 0, .slice none 0 0, .int .i64 0, .bool false] 39)).heap.size = w.heap.size + 2 := by simp
 have HZ := Lib.hid hz
 clear hz
 go_enter Tryz.func26, Tryz.ntmps26
 go_wp2_with (first | (at_builtin; refine wpList_appS rfl _ _ 37 rfl w.heap.size SRGroup (.slice none 0 0) 0 [] rfl (World.ownsRow_nil ..) AG nG cG (x.groups.map GroupD.cells) rfl hG2 (cellsOne (fun _ => rfl) _) (by omega) (by have := HZ.out; omega) ?_; intro A c w1 hown hgr; simp only [Nat.zero_add]; have hg1 := Ext.of_grown (S := Nothing) hgr (fun g e => by simp [Value.ownBlock] at e); have hb1 := hb0.e0 hg1; have hr1 := hr0.e0 hg1; have q4 : w1.cell? ⟨w.heap.size, 4, none⟩ = some (.slice AG nG cG) := hb1.cell 4; have f4 : w1.frozen? ⟨w.heap.size, 4, none⟩ = false := hb1.frozen 4; have hb2 : Blk (w1.setCell ⟨w.heap.size, 4, none⟩ (.slice A nG c)) w.heap.size 39 #[.int .i64 x.id, .int .i64 x.ty, .int .i64 x.prio, .int .i64 x.par, .slice A nG c, .int .i64 x.ver, .bool x.stopped] := hb1.set_ 4 _; have hx3 : Ext (fun q => q = w.heap.size) w1 (w1.setCell ⟨w.heap.size, 4, none⟩ (.slice A nG c)) := Ext.set1 _ _ _ _; have hr2 := hr1.ext hx3 (by omega)) | (refine wpList_load_blk rfl 39 _ rfl STJob w.heap.size rfl #[.int .i64 x.id, .int .i64 x.ty, .int .i64 x.prio, .int .i64 x.par, .slice A nG c, .int .i64 x.ver, .bool x.stopped] hb2 rfl ?_) | (refine wpList_store_blk rfl 39 _ _ rfl STJob (w.heap.size + 1) rfl #[.int .i64 x.id, .int .i64 x.ty, .int .i64 x.prio, .int .i64 x.par, .slice A nG c, .int .i64 x.ver, .bool x.stopped] rfl hr2 rfl rfl rfl ?_; intro w4 hr4 hx4))
 have hown2 : w1.ownsRow w.heap.size 116 3 (.slice A nG c) nG (x.groups.flatMap GroupD.cells) := by
  have h1 : [] ++ (x.groups.map GroupD.cells).flatten = x.groups.flatMap GroupD.cells := rfl
  rw [h1, Nat.zero_add] at hown
  exact hown
 have hne := own_ne hown2 hb1 (by decide)
 have hne2 := own_ne hown2 hr1 (by decide)
 exact bodyPost_ret (results_cell rfl STJob (g := w.heap.size + 1) rfl hr4 rfl) rfl ⟨A, c, rfl, own_ext (own_ext hown2 hx3 (fun g hg e => hne (e ▸ hg))) hx4 (fun g hg e => hne2 (e ▸ hg)), ((hx0.tr hg1).trans hx3 (fun q hq e => by omega)).trans hx4 (fun q hq e => by omega)⟩
end
section
open Go.RowKit
theorem own_blk {w : World} {base e sz n g : Nat} {v : Value} {xs : List Value} (h : w.ownsRow base e sz v n xs) (hv : v.ownBlock = some g) : ∃ cs, Blk w g e cs := by
 rcases h.2 with ⟨rfl, _⟩ | ⟨g', cap, cur, rfl, _, hg, _⟩
 ·simp [Value.ownBlock] at hv
 ·simp [Value.ownBlock] at hv
  subst hv
  exact ⟨cur, hg⟩
def Apart (W : World) (S : Nat → Prop) (T : List TypeId) : Prop := ∀ b, S b → ∃ t cs, Blk W b t cs ∧ t ∉ T
theorem Apart.none {W : World} {T : List TypeId} : Apart W Nothing T := fun _ h => h.elim
theorem Apart.one {W : World} {T : List TypeId} {b t : Nat} {cs : Array Value} (h : Blk W b t cs) (ht : t ∉ T) : Apart W (fun q => q = b) T := fun q e => by subst e; exact ⟨t, cs, h, ht⟩
theorem Apart.row {W : World} {T : List TypeId} {base e sz n : Nat} {v : Value} {xs : List Value} (h : W.ownsRow base e sz v n xs) (ht : e ∉ T) : Apart W (fun q => v.ownBlock = some q) T := fun q hq => by
 obtain ⟨cs, hb⟩ := own_blk h hq
 exact ⟨e, cs, hb, ht⟩
theorem Apart.or {W : World} {T : List TypeId} {S S' : Nat → Prop} (h : Apart W S T) (h' : Apart W S' T) : Apart W (fun q => S q ∨ S' q) T := fun q e => e.elim (h q) (h' q)
theorem Apart.less {W : World} {T T' : List TypeId} {S : Nat → Prop} (h : Apart W S T) (hT : ∀ t ∈ T', t ∈ T) : Apart W S T' := fun q e => by
 obtain ⟨t, cs, hb, ht⟩ := h q e
 exact ⟨t, cs, hb, fun hm => ht (hT t hm)⟩
theorem own_apart {S : Nat → Prop} {w w' : World} {base e sz n : Nat} {v : Value} {xs : List Value} (h : w.ownsRow base e sz v n xs) (hx : Ext S w w') (hS : Apart w S [e]) : w'.ownsRow base e sz v n xs :=
 own_ext h hx fun g hg hs => by
  obtain ⟨t, cs, hb, ht⟩ := hS g hs
  exact own_ne h hb (fun e' => ht (by simp [e'])) hg
theorem blk_apart {S : Nat → Prop} {w w' : World} {g t : Nat} {cs : Array Value} (h : Blk w g t cs) (hx : Ext S w w') (hS : Apart w S [t]) : Blk w' g t cs :=
 h.ext hx fun hs => by
  obtain ⟨t', cs', hb, ht⟩ := hS g hs
  exact Blk.ne h hb (fun e => ht (by simp [e])) rfl
def GrpOk (base : Nat) (W : World) (y : JobV) : Prop := ∃ A n c, y.2 = .slice A n c ∧ W.ownsRow base 116 3 (.slice A n c) n (y.1.groups.flatMap GroupD.cells) ∧ n = y.1.groups.length ∧ n ≤ 1048576
theorem GrpOk.keep {S : Nat → Prop} {base : Nat} {W W' : World} {y : JobV} (h : GrpOk base W y) (hx : Ext S W W') (hS : Apart W S [116]) : GrpOk base W' y := by
 obtain ⟨A, n, c, h1, h2, h3, h4⟩ := h
 exact ⟨A, n, c, h1, own_apart h2 hx hS, h3, h4⟩
structure JobsI (base : Nat) (W : World) (v : Value) (ys : List JobV) : Prop where
 own : W.ownsRow base 39 7 v ys.length (ys.flatMap JobV.cells)
 grp : ∀ y ∈ ys, GrpOk base W y
theorem JobsI.keep {S : Nat → Prop} {base : Nat} {W W' : World} {v : Value} {ys : List JobV} (h : JobsI base W v ys) (hx : Ext S W W') (hS : Apart W S [39, 116]) : JobsI base W' v ys :=
 ⟨own_apart h.own hx (hS.less (by simp)), fun y hy => (h.grp y hy).keep hx (hS.less (by simp))⟩
theorem JobsI.push {base : Nat} {W W' : World} {v v' : Value} {ys : List JobV} {y : JobV} (h : JobsI base W v ys) (hy : GrpOk base W y) (ho : W'.ownsRow base 39 7 v' (ys.length + 1) (ys.flatMap JobV.cells ++ JobV.cells y)) (hg : W.grownBy W' v.ownBlock) : JobsI base W' v' (ys ++ [y]) := by
 have hx : Ext (fun q => v.ownBlock = some q) W W' := Ext.of_grown hg (fun _ e => e)
 refine ⟨by simpa using ho, fun z hz => ?_⟩
 have hz' : GrpOk base W z := by
  rcases List.mem_append.1 hz with hz | hz
  ·exact h.grp z hz
  ·rw [List.mem_singleton] at hz; subst hz; exact hy
 exact hz'.keep hx (Apart.row h.own (by decide))
theorem JobsI.base {b b' : Nat} {W : World} {v : Value} {ys : List JobV} (h : JobsI b W v ys) (hb : b' ≤ b) : JobsI b' W v ys :=
 ⟨own_base h.own hb, fun y hy => by obtain ⟨A, n, c, h1, h2, h3, h4⟩ := h.grp y hy; exact ⟨A, n, c, h1, own_base h2 hb, h3, h4⟩⟩
theorem JobsI.keepR {S : Nat → Prop} {base B : Nat} {W W' : World} {v : Value} {ys : List JobV} (h : JobsI base W v ys) (hlt : ∀ q, v.ownBlock = some q → q < B) (hx : Ext S W W') (hB : ∀ q, S q → B ≤ q) (hS : Apart W S [116]) : JobsI base W' v ys :=
 ⟨own_ext h.own hx fun g hg hs => by have := hlt g hg; have := hB g hs; omega, fun y hy => (h.grp y hy).keep hx hS⟩
structure CopyI (w : World) (s : StoreV) (W : World) (cs : Array Value) : Prop where
 ext : Ext Nothing w W
 src : Blk W w.heap.size 30 #[.int .i64 s.index, .int .i64 s.next, .slice s.AJ s.nJ s.cJ, .slice s.AS s.nS s.cS, .slice s.AN s.nN s.cN, .slice s.AA s.nA s.cA, .slice s.AE s.nE s.cE, .slice s.AD s.nD s.cD, .slice s.AX s.nX s.cX]
 res : Blk W (w.heap.size + 1) 30 #[.int .i64 0, .int .i64 0, .slice none 0 0, .slice none 0 0, .slice none 0 0, .slice none 0 0, .slice none 0 0, .slice none 0 0, .slice none 0 0]
 out : Blk W (w.heap.size + 1 + 1) 30 cs
theorem CopyI.keep {S : Nat → Prop} {w : World} {s : StoreV} {W W' : World} {cs : Array Value} (h : CopyI w s W cs) (hx : Ext S W W') (hS : Apart W S [30]) (h0 : ∀ b, S b → w.heap.size ≤ b) : CopyI w s W' cs :=
 ⟨h.ext.trans hx (fun b hb e => by have := h0 b e; omega), blk_apart h.src hx hS, blk_apart h.res hx hS, blk_apart h.out hx hS⟩
theorem CopyI.keep0 {w : World} {s : StoreV} {W W' : World} {cs : Array Value} (h : CopyI w s W cs) (hx : Ext Nothing W W') : CopyI w s W' cs := h.keep hx Apart.none (fun _ e => e.elim)
theorem CopyI.grown {w : World} {s : StoreV} {W W' : World} {cs : Array Value} {e sz n : Nat} {v : Value} {xs : List Value} (h : CopyI w s W cs) (ho : W.ownsRow w.heap.size e sz v n xs) (he : e ≠ 30) (hg : W.grownBy W' v.ownBlock) : CopyI w s W' cs :=
 h.keep (Ext.of_grown (S := fun q => v.ownBlock = some q) hg (fun _ e => e)) (Apart.row ho (by simpa using he)) (fun b hb => own_ge ho hb)
theorem CopyI.put {w : World} {s : StoreV} {W : World} {cs : Array Value} (h : CopyI w s W cs) (i : Nat) (u : Value) : CopyI w s (W.setCell ⟨w.heap.size + 1 + 1, i, none⟩ u) (cs.setIfInBounds i u) := by
 have hx : Ext (fun q => q = w.heap.size + 1 + 1) W (W.setCell ⟨w.heap.size + 1 + 1, i, none⟩ u) := Ext.set1 _ _ _ _
 exact ⟨h.ext.trans hx (fun b hb e => by omega), h.src.ext hx (by omega), h.res.ext hx (by omega), h.out.set_ i u⟩
def AnsOk (base : Nat) (W : World) (y : SeenV) : Prop := ∃ A n c, y.2 = .slice A n c ∧ W.ownsRow base 58 11 (.slice A n c) n (y.1.answer.allocs.flatMap AllocD.cells) ∧ n = y.1.answer.allocs.length ∧ n ≤ 1048576
theorem AnsOk.keep {S : Nat → Prop} {base : Nat} {W W' : World} {y : SeenV} (h : AnsOk base W y) (hx : Ext S W W') (hS : Apart W S [58]) : AnsOk base W' y := by
 obtain ⟨A, n, c, h1, h2, h3, h4⟩ := h
 exact ⟨A, n, c, h1, own_apart h2 hx hS, h3, h4⟩
structure SeenI (base : Nat) (W : World) (v : Value) (ys : List SeenV) : Prop where
 own : W.ownsRow base 67 5 v ys.length (ys.flatMap SeenV.cells)
 ans : ∀ y ∈ ys, AnsOk base W y
theorem SeenI.keep {S : Nat → Prop} {base : Nat} {W W' : World} {v : Value} {ys : List SeenV} (h : SeenI base W v ys) (hx : Ext S W W') (hS : Apart W S [67, 58]) : SeenI base W' v ys :=
 ⟨own_apart h.own hx (hS.less (by simp)), fun y hy => (h.ans y hy).keep hx (hS.less (by simp))⟩
theorem SeenI.push {base : Nat} {W W' : World} {v v' : Value} {ys : List SeenV} {y : SeenV} (h : SeenI base W v ys) (hy : AnsOk base W y) (ho : W'.ownsRow base 67 5 v' (ys.length + 1) (ys.flatMap SeenV.cells ++ SeenV.cells y)) (hg : W.grownBy W' v.ownBlock) : SeenI base W' v' (ys ++ [y]) := by
 have hx : Ext (fun q => v.ownBlock = some q) W W' := Ext.of_grown hg (fun _ e => e)
 refine ⟨by simpa using ho, fun z hz => ?_⟩
 have hz' : AnsOk base W z := by
  rcases List.mem_append.1 hz with hz | hz
  ·exact h.ans z hz
  ·rw [List.mem_singleton] at hz; subst hz; exact hy
 exact hz'.keep hx (Apart.row h.own (by decide))
structure CopyS (w : World) (s : StoreV) (W : World) (vJ vS vN vA vE vD vX : Value) (ys zs : List JobV) (ns : List NodD) (as_ : List AllocD) (es : List EvalD) (ds : List DepD) (xs : List SeenV) : Prop where
 i : CopyI w s W #[.int .i64 s.index, .int .i64 s.next, vJ, vS, vN, vA, vE, vD, vX]
 j : JobsI w.heap.size W vJ ys
 t : JobsI w.heap.size W vS zs
 n : W.ownsRow w.heap.size 43 8 vN ns.length (ns.flatMap NodD.cells)
 a : W.ownsRow w.heap.size 58 11 vA as_.length (as_.flatMap AllocD.cells)
 e : W.ownsRow w.heap.size 76 4 vE es.length (es.flatMap EvalD.cells)
 d : W.ownsRow w.heap.size 97 4 vD ds.length (ds.flatMap DepD.cells)
 x : SeenI w.heap.size W vX xs
section
variable {w : World} {s : StoreV} {W W' : World} {vJ vS vN vA vE vD vX v' : Value} {ys zs : List JobV} {ns : List NodD} {as_ : List AllocD} {es : List EvalD} {ds : List DepD} {xs : List SeenV}
theorem CopyS.keep {S : Nat → Prop} (C : CopyS w s W vJ vS vN vA vE vD vX ys zs ns as_ es ds xs) (hx : Ext S W W') (hS : Apart W S [30, 39, 116, 43, 58, 76, 97, 67]) (h0 : ∀ b, S b → w.heap.size ≤ b) : CopyS w s W' vJ vS vN vA vE vD vX ys zs ns as_ es ds xs :=
 ⟨C.i.keep hx (hS.less (by decide)) h0, C.j.keep hx (hS.less (by decide)), C.t.keep hx (hS.less (by decide)), own_apart C.n hx (hS.less (by decide)), own_apart C.a hx (hS.less (by decide)), own_apart C.e hx (hS.less (by decide)), own_apart C.d hx (hS.less (by decide)), C.x.keep hx (hS.less (by decide))⟩
theorem CopyS.keep0 (C : CopyS w s W vJ vS vN vA vE vD vX ys zs ns as_ es ds xs) (hx : Ext Nothing W W') : CopyS w s W' vJ vS vN vA vE vD vX ys zs ns as_ es ds xs := C.keep hx Apart.none (fun _ e => e.elim)
theorem CopyS.setN (C : CopyS w s W vJ vS (.slice none 0 0) vA vE vD vX ys zs [] as_ es ds xs) {m : List NodD} (o : W'.ownsRow w.heap.size 43 8 v' m.length (m.flatMap NodD.cells)) (g : W.grownBy W' (Value.slice none 0 0).ownBlock) : CopyS w s (W'.setCell ⟨w.heap.size + 1 + 1, 4, none⟩ v') vJ vS v' vA vE vD vX ys zs m as_ es ds xs := by
 have hx : Ext Nothing W W' := Ext.of_grown g (fun b e => by simp [Value.ownBlock] at e)
 have C1 := C.keep0 hx
 have hp : Ext (fun q => q = w.heap.size + 1 + 1) W' (W'.setCell ⟨w.heap.size + 1 + 1, 4, none⟩ v') := Ext.set1 _ _ _ _
 exact ⟨C1.i.put 4 v', C1.j.keep hp (Apart.one C1.i.out (by decide)), C1.t.keep hp (Apart.one C1.i.out (by decide)), own_apart o hp (Apart.one C1.i.out (by decide)), own_apart C1.a hp (Apart.one C1.i.out (by decide)), own_apart C1.e hp (Apart.one C1.i.out (by decide)), own_apart C1.d hp (Apart.one C1.i.out (by decide)), C1.x.keep hp (Apart.one C1.i.out (by decide))⟩
theorem CopyS.setA (C : CopyS w s W vJ vS vN (.slice none 0 0) vE vD vX ys zs ns [] es ds xs) {m : List AllocD} (o : W'.ownsRow w.heap.size 58 11 v' m.length (m.flatMap AllocD.cells)) (g : W.grownBy W' (Value.slice none 0 0).ownBlock) : CopyS w s (W'.setCell ⟨w.heap.size + 1 + 1, 5, none⟩ v') vJ vS vN v' vE vD vX ys zs ns m es ds xs := by
 have hx : Ext Nothing W W' := Ext.of_grown g (fun b e => by simp [Value.ownBlock] at e)
 have C1 := C.keep0 hx
 have hp : Ext (fun q => q = w.heap.size + 1 + 1) W' (W'.setCell ⟨w.heap.size + 1 + 1, 5, none⟩ v') := Ext.set1 _ _ _ _
 exact ⟨C1.i.put 5 v', C1.j.keep hp (Apart.one C1.i.out (by decide)), C1.t.keep hp (Apart.one C1.i.out (by decide)), own_apart C1.n hp (Apart.one C1.i.out (by decide)), own_apart o hp (Apart.one C1.i.out (by decide)), own_apart C1.e hp (Apart.one C1.i.out (by decide)), own_apart C1.d hp (Apart.one C1.i.out (by decide)), C1.x.keep hp (Apart.one C1.i.out (by decide))⟩
theorem CopyS.setE (C : CopyS w s W vJ vS vN vA (.slice none 0 0) vD vX ys zs ns as_ [] ds xs) {m : List EvalD} (o : W'.ownsRow w.heap.size 76 4 v' m.length (m.flatMap EvalD.cells)) (g : W.grownBy W' (Value.slice none 0 0).ownBlock) : CopyS w s (W'.setCell ⟨w.heap.size + 1 + 1, 6, none⟩ v') vJ vS vN vA v' vD vX ys zs ns as_ m ds xs := by
 have hx : Ext Nothing W W' := Ext.of_grown g (fun b e => by simp [Value.ownBlock] at e)
 have C1 := C.keep0 hx
 have hp : Ext (fun q => q = w.heap.size + 1 + 1) W' (W'.setCell ⟨w.heap.size + 1 + 1, 6, none⟩ v') := Ext.set1 _ _ _ _
 exact ⟨C1.i.put 6 v', C1.j.keep hp (Apart.one C1.i.out (by decide)), C1.t.keep hp (Apart.one C1.i.out (by decide)), own_apart C1.n hp (Apart.one C1.i.out (by decide)), own_apart C1.a hp (Apart.one C1.i.out (by decide)), own_apart o hp (Apart.one C1.i.out (by decide)), own_apart C1.d hp (Apart.one C1.i.out (by decide)), C1.x.keep hp (Apart.one C1.i.out (by decide))⟩
theorem CopyS.setD (C : CopyS w s W vJ vS vN vA vE (.slice none 0 0) vX ys zs ns as_ es [] xs) {m : List DepD} (o : W'.ownsRow w.heap.size 97 4 v' m.length (m.flatMap DepD.cells)) (g : W.grownBy W' (Value.slice none 0 0).ownBlock) : CopyS w s (W'.setCell ⟨w.heap.size + 1 + 1, 7, none⟩ v') vJ vS vN vA vE v' vX ys zs ns as_ es m xs := by
 have hx : Ext Nothing W W' := Ext.of_grown g (fun b e => by simp [Value.ownBlock] at e)
 have C1 := C.keep0 hx
 have hp : Ext (fun q => q = w.heap.size + 1 + 1) W' (W'.setCell ⟨w.heap.size + 1 + 1, 7, none⟩ v') := Ext.set1 _ _ _ _
 exact ⟨C1.i.put 7 v', C1.j.keep hp (Apart.one C1.i.out (by decide)), C1.t.keep hp (Apart.one C1.i.out (by decide)), own_apart C1.n hp (Apart.one C1.i.out (by decide)), own_apart C1.a hp (Apart.one C1.i.out (by decide)), own_apart C1.e hp (Apart.one C1.i.out (by decide)), own_apart o hp (Apart.one C1.i.out (by decide)), C1.x.keep hp (Apart.one C1.i.out (by decide))⟩
theorem CopyS.pushX {y : SeenV} (C : CopyS w s W vJ vS vN vA vE vD vX ys zs ns as_ es ds xs) (hy : AnsOk w.heap.size W y) (o : W'.ownsRow w.heap.size 67 5 v' (xs.length + 1) (xs.flatMap SeenV.cells ++ SeenV.cells y)) (g : W.grownBy W' vX.ownBlock) : CopyS w s (W'.setCell ⟨w.heap.size + 1 + 1, 8, none⟩ v') vJ vS vN vA vE vD v' ys zs ns as_ es ds (xs ++ [y]) := by
 have hx : Ext (fun q => vX.ownBlock = some q) W W' := Ext.of_grown g (fun _ e => e)
 have ap : ∀ {T : List TypeId}, 67 ∉ T → Apart W (fun q => vX.ownBlock = some q) T := fun h => Apart.row C.x.own h
 have hp : Ext (fun q => q = w.heap.size + 1 + 1) W' (W'.setCell ⟨w.heap.size + 1 + 1, 8, none⟩ v') := Ext.set1 _ _ _ _
 have i1 := C.i.keep hx (ap (by decide)) (fun b e => own_ge C.x.own e)
 have ap1 : ∀ {T : List TypeId}, 30 ∉ T → Apart W' (fun q => q = w.heap.size + 1 + 1) T := fun h => Apart.one i1.out h
 exact ⟨i1.put 8 v', (C.j.keep hx (ap (by decide))).keep hp (ap1 (by decide)), (C.t.keep hx (ap (by decide))).keep hp (ap1 (by decide)), own_apart (own_apart C.n hx (ap (by decide))) hp (ap1 (by decide)), own_apart (own_apart C.a hx (ap (by decide))) hp (ap1 (by decide)), own_apart (own_apart C.e hx (ap (by decide))) hp (ap1 (by decide)), own_apart (own_apart C.d hx (ap (by decide))) hp (ap1 (by decide)), (C.x.push hy o g).keep hp (ap1 (by decide))⟩
end
structure Copied (base : Nat) (W : World) (s s' : StoreV) : Prop where
 index : s'.index = s.index
 next : s'.next = s.next
 j : JobsI base W (.slice s'.AJ s'.nJ s'.cJ) s'.jobs
 jl : s'.nJ = s'.jobs.length
 jm : s'.jobs.map (·.1) = s.jobs.map (·.1)
 t : JobsI base W (.slice s'.AS s'.nS s'.cS) s'.stable
 tl : s'.nS = s'.stable.length
 tm : s'.stable.map (·.1) = s.stable.map (·.1)
 n : W.ownsRow base 43 8 (.slice s'.AN s'.nN s'.cN) s'.nodes.length (s'.nodes.flatMap NodD.cells)
 nl : s'.nN = s'.nodes.length
 nm : s'.nodes = s.nodes
 a : W.ownsRow base 58 11 (.slice s'.AA s'.nA s'.cA) s'.allocs.length (s'.allocs.flatMap AllocD.cells)
 al : s'.nA = s'.allocs.length
 am : s'.allocs = s.allocs
 e : W.ownsRow base 76 4 (.slice s'.AE s'.nE s'.cE) s'.evals.length (s'.evals.flatMap EvalD.cells)
 el : s'.nE = s'.evals.length
 em : s'.evals = s.evals
 d : W.ownsRow base 97 4 (.slice s'.AD s'.nD s'.cD) s'.deploys.length (s'.deploys.flatMap DepD.cells)
 dl : s'.nD = s'.deploys.length
 dm : s'.deploys = s.deploys
 x : SeenI base W (.slice s'.AX s'.nX s'.cX) s'.seen
 xl : s'.nX = s'.seen.length
 xm : s'.seen.map (·.1) = s.seen.map (·.1)
 sep : ∀ q, (Value.slice s'.AJ s'.nJ s'.cJ).ownBlock = some q → (Value.slice s'.AS s'.nS s'.cS).ownBlock ≠ some q
theorem mem_map_fst {α β : Type} {l l' : List (α × β)} (h : l'.map (·.1) = l.map (·.1)) {y : α × β} (hy : y ∈ l') : ∃ x ∈ l, x.1 = y.1 := by
 have : y.1 ∈ l'.map (·.1) := List.mem_map_of_mem hy
 rw [h] at this
 obtain ⟨x, hx, e⟩ := List.mem_map.1 this
 exact ⟨x, hx, e⟩
theorem jobs_ok {base : Nat} {w W : World} {v : Value} {ys l : List JobV} (h : JobsI base W v ys) (hm : ys.map (·.1) = l.map (·.1)) (hl : ∀ x ∈ l, JobV.ok w x) : ∀ y ∈ ys, JobV.ok W y := fun y hy => by
 obtain ⟨x, hx, e⟩ := mem_map_fst hm hy
 obtain ⟨h0, _, _, _, _, _, hg, _⟩ := hl x hx
 obtain ⟨A, n, c, h1, h2, h3, h4⟩ := h.grp y hy
 exact ⟨e ▸ h0, A, n, c, h1, Sl.of_own (fun _ => rfl) h2 h3, e ▸ hg, h4⟩
theorem seen_ok {base : Nat} {w W : World} {v : Value} {ys l : List SeenV} (h : SeenI base W v ys) (hm : ys.map (·.1) = l.map (·.1)) (hl : ∀ x ∈ l, SeenV.ok w x) : ∀ y ∈ ys, SeenV.ok W y := fun y hy => by
 obtain ⟨x, hx, e⟩ := mem_map_fst hm hy
 obtain ⟨h0, _, _, _, _, _, hg, _⟩ := hl x hx
 obtain ⟨A, n, c, h1, h2, h3, h4⟩ := h.ans y hy
 exact ⟨e ▸ h0, A, n, c, h1, Sl.of_own (fun _ => rfl) h2 h3, e ▸ hg, h4⟩
theorem Copied.ok {base : Nat} {w W : World} {s s' : StoreV} (C : Copied base W s s') (h : s.Ok w) : s'.Ok W := by
 have e1 : s'.jobs.length = s.jobs.length := by have := congrArg List.length C.jm; simpa using this
 have e2 : s'.stable.length = s.stable.length := by have := congrArg List.length C.tm; simpa using this
 have e3 : s'.seen.length = s.seen.length := by have := congrArg List.length C.xm; simpa using this
 have l1 := h.sJ.len
 have l2 := h.sS.len
 have l3 := h.sX.len
 have l4 := h.sN.len
 have l5 := h.sA.len
 have l6 := h.sE.len
 have l7 := h.sD.len
 have m1 := h.mJ
 have m2 := h.mS
 have m3 := h.mX
 have m4 := h.mN
 have m5 := h.mA
 have m6 := h.mE
 have m7 := h.mD
 refine ⟨Sl.of_own (fun _ => rfl) (by rw [C.jl]; exact C.jl ▸ C.j.own) C.jl, jobs_ok C.j C.jm h.kJ, by rw [C.jl]; omega, Sl.of_own (fun _ => rfl) (by rw [C.tl]; exact C.tl ▸ C.t.own) C.tl, jobs_ok C.t C.tm h.kS, by rw [C.tl]; omega,
  Sl.of_own (fun _ => rfl) (by rw [C.nl]; exact C.nl ▸ C.n) C.nl, C.nm ▸ h.kN, by rw [C.nl, C.nm]; omega, Sl.of_own (fun _ => rfl) (by rw [C.al]; exact C.al ▸ C.a) C.al, C.am ▸ h.kA, by rw [C.al, C.am]; omega,
  Sl.of_own (fun _ => rfl) (by rw [C.el]; exact C.el ▸ C.e) C.el, C.em ▸ h.kE, by rw [C.el, C.em]; omega, Sl.of_own (fun _ => rfl) (by rw [C.dl]; exact C.dl ▸ C.d) C.dl, C.dm ▸ h.kD, by rw [C.dl, C.dm]; omega,
  Sl.of_own (fun _ => rfl) (by rw [C.xl]; exact C.xl ▸ C.x.own) C.xl, seen_ok C.x C.xm h.kX, by rw [C.xl]; omega⟩
end
end Go.Proofs.YtlpfcmnnmdhaoaaGreat
