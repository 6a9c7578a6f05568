/- Parts of the proof: Ref06 -/
import Derived.Deep.CutRange
import Derived.Test.YtlpfcmnnmdhaoaaGreatQ10
import Derived.Test.YtlpfcmnnmdhaoaaGreatQ03
namespace Go.Proofs.YtlpfcmnnmdhaoaaGreat
set_option linter.unusedVariables false
set_option linter.unusedSimpArgs false
set_option linter.unusedSectionVars false
open Go.RowKit
theorem STGrp : StructT Tryz.prog 116 3 := .of (by kernel_rfl)
def jobErr (j : JobD) : Int := if Fsm.jobOk j then 0 else 30
def nodeErr (n : NodD) : Int := if Fsm.nodeOk n then 0 else 31
theorem jobErr_no {j : JobD} (h : Fsm.jobOk j = false) : jobErr j = 30 := by unfold jobErr; rw [h]; rfl
theorem jobErr_ok {j : JobD} (h : Fsm.jobOk j = true) : jobErr j = 0 := by unfold jobErr; rw [h]; rfl
theorem nodeErr_no {n : NodD} (h : Fsm.nodeOk n = false) : nodeErr n = 31 := by unfold nodeErr; rw [h]; rfl
theorem nodeErr_ok {n : NodD} (h : Fsm.nodeOk n = true) : nodeErr n = 0 := by unfold nodeErr; rw [h]; rfl
set_option maxRecDepth 20000 in
set_option maxHeartbeats 4000000 in
theorem ref06Node (n : NodD) (w : World) : Calls Tryz.prog 55 #[.agg #[.int .i64 n.id, .int .i64 n.cap.cpu, .int .i64 n.cap.mem, .bool n.up, .bool n.drain, .int .i64 n.boot, .int .i64 n.epoch, .int .i64 n.seq]] w fun e w' => e = .returned (.int .i64 (nodeErr n)) ∧ Ext Nothing w w' := by
 obtain ⟨n0, ⟨n1, n2⟩, n3, n4, n5, n6, n7⟩ := n
 simp only
 have hx0 : Ext Nothing w (w.alloc (.cells #[.int .i64 n0, .int .i64 n1, .int .i64 n2, .bool n3, .bool n4, .int .i64 n5, .int .i64 n6, .int .i64 n7] 43)) := Ext.auto
 by_cases q0 : n0 < 1
 ·have e0 : decide (n0 < 1) = true := by simpa using q0
  have H := Lib.hid (show nodeErr ⟨n0, ⟨n1, n2⟩, n3, n4, n5, n6, n7⟩ = 31 from nodeErr_no <| Bool.eq_false_iff.2 (fun h => by simp only [Fsm.nodeOk, Bool.and_eq_true, decide_eq_true_eq] at h; obtain ⟨⟨⟨⟨⟨⟨⟨_, _⟩, _⟩, _⟩, _⟩, _⟩, _⟩, _⟩ := h; have hbg : Fsm.big40 = 1099511627776 := rfl; omega))
  go_enter Tryz.func55, Tryz.ntmps55
  go_wp2_with (first | go_skip | go_guarded)
  go_ret
  exact ⟨by rw [H.out]; rfl, hx0⟩
 ·have e0 : decide (n0 < 1) = false := by simpa using q0
  by_cases q1 : 4 < n0
  ·have e1 : decide (4 < n0) = true := by simpa using q1
   have H := Lib.hid (show nodeErr ⟨n0, ⟨n1, n2⟩, n3, n4, n5, n6, n7⟩ = 31 from nodeErr_no <| Bool.eq_false_iff.2 (fun h => by simp only [Fsm.nodeOk, Bool.and_eq_true, decide_eq_true_eq] at h; obtain ⟨⟨⟨⟨⟨⟨⟨_, _⟩, _⟩, _⟩, _⟩, _⟩, _⟩, _⟩ := h; have hbg : Fsm.big40 = 1099511627776 := rfl; omega))
   go_enter Tryz.func55, Tryz.ntmps55
   go_wp2_with (first | go_skip | go_guarded)
   go_ret
   exact ⟨by rw [H.out]; rfl, hx0⟩
  ·have e1 : decide (4 < n0) = false := by simpa using q1
   by_cases q2 : n1 < 0
   ·have e2 : decide (n1 < 0) = true := by simpa using q2
    have H := Lib.hid (show nodeErr ⟨n0, ⟨n1, n2⟩, n3, n4, n5, n6, n7⟩ = 31 from nodeErr_no <| Bool.eq_false_iff.2 (fun h => by simp only [Fsm.nodeOk, Bool.and_eq_true, decide_eq_true_eq] at h; obtain ⟨⟨⟨⟨⟨⟨⟨_, _⟩, _⟩, _⟩, _⟩, _⟩, _⟩, _⟩ := h; have hbg : Fsm.big40 = 1099511627776 := rfl; omega))
    go_enter Tryz.func55, Tryz.ntmps55
    go_wp2_with (first | go_skip | go_guarded)
    go_ret
    exact ⟨by rw [H.out]; rfl, hx0⟩
   ·have e2 : decide (n1 < 0) = false := by simpa using q2
    by_cases q3 : 1099511627776 < n1
    ·have e3 : decide (1099511627776 < n1) = true := by simpa using q3
     have H := Lib.hid (show nodeErr ⟨n0, ⟨n1, n2⟩, n3, n4, n5, n6, n7⟩ = 31 from nodeErr_no <| Bool.eq_false_iff.2 (fun h => by simp only [Fsm.nodeOk, Bool.and_eq_true, decide_eq_true_eq] at h; obtain ⟨⟨⟨⟨⟨⟨⟨_, _⟩, _⟩, _⟩, _⟩, _⟩, _⟩, _⟩ := h; have hbg : Fsm.big40 = 1099511627776 := rfl; omega))
     go_enter Tryz.func55, Tryz.ntmps55
     go_wp2_with (first | go_skip | go_guarded)
     go_ret
     exact ⟨by rw [H.out]; rfl, hx0⟩
    ·have e3 : decide (1099511627776 < n1) = false := by simpa using q3
     by_cases q4 : n2 < 0
     ·have e4 : decide (n2 < 0) = true := by simpa using q4
      have H := Lib.hid (show nodeErr ⟨n0, ⟨n1, n2⟩, n3, n4, n5, n6, n7⟩ = 31 from nodeErr_no <| Bool.eq_false_iff.2 (fun h => by simp only [Fsm.nodeOk, Bool.and_eq_true, decide_eq_true_eq] at h; obtain ⟨⟨⟨⟨⟨⟨⟨_, _⟩, _⟩, _⟩, _⟩, _⟩, _⟩, _⟩ := h; have hbg : Fsm.big40 = 1099511627776 := rfl; omega))
      go_enter Tryz.func55, Tryz.ntmps55
      go_wp2_with (first | go_skip | go_guarded)
      go_ret
      exact ⟨by rw [H.out]; rfl, hx0⟩
     ·have e4 : decide (n2 < 0) = false := by simpa using q4
      by_cases q5 : 1099511627776 < n2
      ·have e5 : decide (1099511627776 < n2) = true := by simpa using q5
       have H := Lib.hid (show nodeErr ⟨n0, ⟨n1, n2⟩, n3, n4, n5, n6, n7⟩ = 31 from nodeErr_no <| Bool.eq_false_iff.2 (fun h => by simp only [Fsm.nodeOk, Bool.and_eq_true, decide_eq_true_eq] at h; obtain ⟨⟨⟨⟨⟨⟨⟨_, _⟩, _⟩, _⟩, _⟩, _⟩, _⟩, _⟩ := h; have hbg : Fsm.big40 = 1099511627776 := rfl; omega))
       go_enter Tryz.func55, Tryz.ntmps55
       go_wp2_with (first | go_skip | go_guarded)
       go_ret
       exact ⟨by rw [H.out]; rfl, hx0⟩
      ·have e5 : decide (1099511627776 < n2) = false := by simpa using q5
       by_cases q6 : n5 < 1
       ·have e6 : decide (n5 < 1) = true := by simpa using q6
        have H := Lib.hid (show nodeErr ⟨n0, ⟨n1, n2⟩, n3, n4, n5, n6, n7⟩ = 31 from nodeErr_no <| Bool.eq_false_iff.2 (fun h => by simp only [Fsm.nodeOk, Bool.and_eq_true, decide_eq_true_eq] at h; obtain ⟨⟨⟨⟨⟨⟨⟨_, _⟩, _⟩, _⟩, _⟩, _⟩, _⟩, _⟩ := h; have hbg : Fsm.big40 = 1099511627776 := rfl; omega))
        go_enter Tryz.func55, Tryz.ntmps55
        go_wp2_with (first | go_skip | go_guarded)
        go_ret
        exact ⟨by rw [H.out]; rfl, hx0⟩
       ·have e6 : decide (n5 < 1) = false := by simpa using q6
        by_cases q7 : 1099511627776 < n5
        ·have e7 : decide (1099511627776 < n5) = true := by simpa using q7
         have H := Lib.hid (show nodeErr ⟨n0, ⟨n1, n2⟩, n3, n4, n5, n6, n7⟩ = 31 from nodeErr_no <| Bool.eq_false_iff.2 (fun h => by simp only [Fsm.nodeOk, Bool.and_eq_true, decide_eq_true_eq] at h; obtain ⟨⟨⟨⟨⟨⟨⟨_, _⟩, _⟩, _⟩, _⟩, _⟩, _⟩, _⟩ := h; have hbg : Fsm.big40 = 1099511627776 := rfl; omega))
         go_enter Tryz.func55, Tryz.ntmps55
         go_wp2_with (first | go_skip | go_guarded)
         go_ret
         exact ⟨by rw [H.out]; rfl, hx0⟩
        ·have e7 : decide (1099511627776 < n5) = false := by simpa using q7
         have H := Lib.hid (show nodeErr ⟨n0, ⟨n1, n2⟩, n3, n4, n5, n6, n7⟩ = 0 from nodeErr_ok <| by simp only [Fsm.nodeOk, Bool.and_eq_true, decide_eq_true_eq]; refine ⟨⟨⟨⟨⟨⟨⟨?_, ?_⟩, ?_⟩, ?_⟩, ?_⟩, ?_⟩, ?_⟩, ?_⟩ <;> (have hbg : Fsm.big40 = 1099511627776 := rfl; omega))
         go_enter Tryz.func55, Tryz.ntmps55
         go_wp2_with (first | go_skip | go_guarded)
         go_ret
         exact ⟨by rw [H.out]; rfl, hx0⟩
set_option maxRecDepth 20000 in
set_option maxHeartbeats 8000000 in
theorem ref06Job (x0 x1 x2 x3 : Int) (xg : List GroupD) (x5 : Int) (x6 : Bool) (AG : Option Addr) (nG cG : Nat) (w : World) (hG : Sl w 3 AG nG (xg.map GroupD.cells)) :
  Calls Tryz.prog 50 #[.agg #[.int .i64 x0, .int .i64 x1, .int .i64 x2, .int .i64 x3, .slice AG nG cG, .int .i64 x5, .bool x6]] w fun e w' => e = .returned (.int .i64 (jobErr ⟨x0, x1, x2, x3, xg, x5, x6⟩)) ∧ Ext Nothing w w' := by
 have hx0 : Ext Nothing w (w.alloc (.cells #[.int .i64 x0, .int .i64 x1, .int .i64 x2, .int .i64 x3, .slice AG nG cG, .int .i64 x5, .bool x6] 39)) := Ext.auto
 have hJ0 : Blk (w.alloc (.cells #[.int .i64 x0, .int .i64 x1, .int .i64 x2, .int .i64 x3, .slice AG nG cG, .int .i64 x5, .bool x6] 39)) w.heap.size 39 #[.int .i64 x0, .int .i64 x1, .int .i64 x2, .int .i64 x3, .slice AG nG cG, .int .i64 x5, .bool x6] := Blk.new _ _ _
 have hgl := hG.len
 by_cases q0 : x0 < 1
 ·have e0 : decide (x0 < 1) = true := by simpa using q0
  have H := Lib.hid (show jobErr ⟨x0, x1, x2, x3, xg, x5, x6⟩ = 30 from jobErr_no <| Bool.eq_false_iff.2 (fun h => by simp only [Fsm.jobOk, Bool.and_eq_true, decide_eq_true_eq] at h; obtain ⟨⟨⟨⟨⟨⟨⟨⟨⟨⟨_, _⟩, _⟩, _⟩, _⟩, _⟩, _⟩, _⟩, _⟩, _⟩, _⟩ := h; have hbg : Fsm.big40 = 1099511627776 := rfl; omega))
  clear hgl
  go_enter Tryz.func50, Tryz.ntmps50
  go_wp2_with (first | go_skip | go_guarded)
  go_ret
  exact ⟨by rw [H.out]; rfl, hx0⟩
 ·have e0 : decide (x0 < 1) = false := by simpa using q0
  by_cases q1 : 1099511627776 < x0
  ·have e1 : decide (1099511627776 < x0) = true := by simpa using q1
   have H := Lib.hid (show jobErr ⟨x0, x1, x2, x3, xg, x5, x6⟩ = 30 from jobErr_no <| Bool.eq_false_iff.2 (fun h => by simp only [Fsm.jobOk, Bool.and_eq_true, decide_eq_true_eq] at h; obtain ⟨⟨⟨⟨⟨⟨⟨⟨⟨⟨_, _⟩, _⟩, _⟩, _⟩, _⟩, _⟩, _⟩, _⟩, _⟩, _⟩ := h; have hbg : Fsm.big40 = 1099511627776 := rfl; omega))
   clear hgl
   go_enter Tryz.func50, Tryz.ntmps50
   go_wp2_with (first | go_skip | go_guarded)
   go_ret
   exact ⟨by rw [H.out]; rfl, hx0⟩
  ·have e1 : decide (1099511627776 < x0) = false := by simpa using q1
   by_cases q2 : x1 < 1
   ·have e2 : decide (x1 < 1) = true := by simpa using q2
    have H := Lib.hid (show jobErr ⟨x0, x1, x2, x3, xg, x5, x6⟩ = 30 from jobErr_no <| Bool.eq_false_iff.2 (fun h => by simp only [Fsm.jobOk, Bool.and_eq_true, decide_eq_true_eq] at h; obtain ⟨⟨⟨⟨⟨⟨⟨⟨⟨⟨_, _⟩, _⟩, _⟩, _⟩, _⟩, _⟩, _⟩, _⟩, _⟩, _⟩ := h; have hbg : Fsm.big40 = 1099511627776 := rfl; omega))
    clear hgl
    go_enter Tryz.func50, Tryz.ntmps50
    go_wp2_with (first | go_skip | go_guarded)
    go_ret
    exact ⟨by rw [H.out]; rfl, hx0⟩
   ·have e2 : decide (x1 < 1) = false := by simpa using q2
    by_cases q3 : 3 < x1
    ·have e3 : decide (3 < x1) = true := by simpa using q3
     have H := Lib.hid (show jobErr ⟨x0, x1, x2, x3, xg, x5, x6⟩ = 30 from jobErr_no <| Bool.eq_false_iff.2 (fun h => by simp only [Fsm.jobOk, Bool.and_eq_true, decide_eq_true_eq] at h; obtain ⟨⟨⟨⟨⟨⟨⟨⟨⟨⟨_, _⟩, _⟩, _⟩, _⟩, _⟩, _⟩, _⟩, _⟩, _⟩, _⟩ := h; have hbg : Fsm.big40 = 1099511627776 := rfl; omega))
     clear hgl
     go_enter Tryz.func50, Tryz.ntmps50
     go_wp2_with (first | go_skip | go_guarded)
     go_ret
     exact ⟨by rw [H.out]; rfl, hx0⟩
    ·have e3 : decide (3 < x1) = false := by simpa using q3
     by_cases q4 : x2 < 1
     ·have e4 : decide (x2 < 1) = true := by simpa using q4
      have H := Lib.hid (show jobErr ⟨x0, x1, x2, x3, xg, x5, x6⟩ = 30 from jobErr_no <| Bool.eq_false_iff.2 (fun h => by simp only [Fsm.jobOk, Bool.and_eq_true, decide_eq_true_eq] at h; obtain ⟨⟨⟨⟨⟨⟨⟨⟨⟨⟨_, _⟩, _⟩, _⟩, _⟩, _⟩, _⟩, _⟩, _⟩, _⟩, _⟩ := h; have hbg : Fsm.big40 = 1099511627776 := rfl; omega))
      clear hgl
      go_enter Tryz.func50, Tryz.ntmps50
      go_wp2_with (first | go_skip | go_guarded)
      go_ret
      exact ⟨by rw [H.out]; rfl, hx0⟩
     ·have e4 : decide (x2 < 1) = false := by simpa using q4
      by_cases q5 : 100 < x2
      ·have e5 : decide (100 < x2) = true := by simpa using q5
       have H := Lib.hid (show jobErr ⟨x0, x1, x2, x3, xg, x5, x6⟩ = 30 from jobErr_no <| Bool.eq_false_iff.2 (fun h => by simp only [Fsm.jobOk, Bool.and_eq_true, decide_eq_true_eq] at h; obtain ⟨⟨⟨⟨⟨⟨⟨⟨⟨⟨_, _⟩, _⟩, _⟩, _⟩, _⟩, _⟩, _⟩, _⟩, _⟩, _⟩ := h; have hbg : Fsm.big40 = 1099511627776 := rfl; omega))
       clear hgl
       go_enter Tryz.func50, Tryz.ntmps50
       go_wp2_with (first | go_skip | go_guarded)
       go_ret
       exact ⟨by rw [H.out]; rfl, hx0⟩
      ·have e5 : decide (100 < x2) = false := by simpa using q5
       by_cases q6 : x3 < 1
       ·have e6 : decide (x3 < 1) = true := by simpa using q6
        have H := Lib.hid (show jobErr ⟨x0, x1, x2, x3, xg, x5, x6⟩ = 30 from jobErr_no <| Bool.eq_false_iff.2 (fun h => by simp only [Fsm.jobOk, Bool.and_eq_true, decide_eq_true_eq] at h; obtain ⟨⟨⟨⟨⟨⟨⟨⟨⟨⟨_, _⟩, _⟩, _⟩, _⟩, _⟩, _⟩, _⟩, _⟩, _⟩, _⟩ := h; have hbg : Fsm.big40 = 1099511627776 := rfl; omega))
        clear hgl
        go_enter Tryz.func50, Tryz.ntmps50
        go_wp2_with (first | go_skip | go_guarded)
        go_ret
        exact ⟨by rw [H.out]; rfl, hx0⟩
       ·have e6 : decide (x3 < 1) = false := by simpa using q6
        by_cases q7 : 8 < x3
        ·have e7 : decide (8 < x3) = true := by simpa using q7
         have H := Lib.hid (show jobErr ⟨x0, x1, x2, x3, xg, x5, x6⟩ = 30 from jobErr_no <| Bool.eq_false_iff.2 (fun h => by simp only [Fsm.jobOk, Bool.and_eq_true, decide_eq_true_eq] at h; obtain ⟨⟨⟨⟨⟨⟨⟨⟨⟨⟨_, _⟩, _⟩, _⟩, _⟩, _⟩, _⟩, _⟩, _⟩, _⟩, _⟩ := h; have hbg : Fsm.big40 = 1099511627776 := rfl; omega))
         clear hgl
         go_enter Tryz.func50, Tryz.ntmps50
         go_wp2_with (first | go_skip | go_guarded)
         go_ret
         exact ⟨by rw [H.out]; rfl, hx0⟩
        ·have e7 : decide (8 < x3) = false := by simpa using q7
         by_cases q8 : (nG : Int) < 1
         ·have e8 : decide ((nG : Int) < 1) = true := by simpa using q8
          have H := Lib.hid (show jobErr ⟨x0, x1, x2, x3, xg, x5, x6⟩ = 30 from jobErr_no <| Bool.eq_false_iff.2 (fun h => by simp only [Fsm.jobOk, Bool.and_eq_true, decide_eq_true_eq] at h; obtain ⟨⟨⟨⟨⟨⟨⟨⟨⟨⟨_, _⟩, _⟩, _⟩, _⟩, _⟩, _⟩, _⟩, _⟩, _⟩, _⟩ := h; have hbg : Fsm.big40 = 1099511627776 := rfl; omega))
          clear hgl
          go_enter Tryz.func50, Tryz.ntmps50
          go_wp2_with (first | go_skip | go_guarded)
          go_ret
          exact ⟨by rw [H.out]; rfl, hx0⟩
         ·have e8 : decide ((nG : Int) < 1) = false := by simpa using q8
          by_cases q9 : 2 < (nG : Int)
          ·have e9 : decide (2 < (nG : Int)) = true := by simpa using q9
           have H := Lib.hid (show jobErr ⟨x0, x1, x2, x3, xg, x5, x6⟩ = 30 from jobErr_no <| Bool.eq_false_iff.2 (fun h => by simp only [Fsm.jobOk, Bool.and_eq_true, decide_eq_true_eq] at h; obtain ⟨⟨⟨⟨⟨⟨⟨⟨⟨⟨_, _⟩, _⟩, _⟩, _⟩, _⟩, _⟩, _⟩, _⟩, _⟩, _⟩ := h; have hbg : Fsm.big40 = 1099511627776 := rfl; omega))
           clear hgl
           go_enter Tryz.func50, Tryz.ntmps50
           go_wp2_with (first | go_skip | go_guarded)
           go_ret
           exact ⟨by rw [H.out]; rfl, hx0⟩
          ·have e9 : decide (2 < (nG : Int)) = false := by simpa using q9
           have hsm : xg.length ≤ 2 := by omega
           have hpos : 1 ≤ xg.length := by omega
           have HALL : ∀ b, xg.all (Fsm.groupOk x1) = b → Fsm.jobOk ⟨x0, x1, x2, x3, xg, x5, x6⟩ = b := fun b hb => by
            unfold Fsm.jobOk
            rw [show xg.all (Fsm.groupOk x1) = b from hb]
            have h1 : decide (1 ≤ x0) = true := by simp; have hbg : Fsm.big40 = 1099511627776 := rfl; omega
            have h2 : decide (x0 ≤ Fsm.big40) = true := by simp; have hbg : Fsm.big40 = 1099511627776 := rfl; omega
            have h3 : decide (1 ≤ x1) = true := by simp; have hbg : Fsm.big40 = 1099511627776 := rfl; omega
            have h4 : decide (x1 ≤ 3) = true := by simp; have hbg : Fsm.big40 = 1099511627776 := rfl; omega
            have h5 : decide (1 ≤ x2) = true := by simp; have hbg : Fsm.big40 = 1099511627776 := rfl; omega
            have h6 : decide (x2 ≤ 100) = true := by simp; have hbg : Fsm.big40 = 1099511627776 := rfl; omega
            have h7 : decide (1 ≤ x3) = true := by simp; have hbg : Fsm.big40 = 1099511627776 := rfl; omega
            have h8 : decide (x3 ≤ 8) = true := by simp; have hbg : Fsm.big40 = 1099511627776 := rfl; omega
            have h9 : decide (1 ≤ xg.length) = true := by simp; have hbg : Fsm.big40 = 1099511627776 := rfl; omega
            have h10 : decide (xg.length ≤ 2) = true := by simp; have hbg : Fsm.big40 = 1099511627776 := rfl; omega
            simp only [h1, h2, h3, h4, h5, h6, h7, h8, h9, h10, Bool.true_and]
           have hnG : nG ≤ 2 := by omega
           have HGL := Lib.hid hgl
           clear hgl hsm hpos
           go_enter Tryz.func50, Tryz.ntmps50
           go_wp2_with (first | go_skip | go_guarded)
           go_loopw [3] (fun c wr => ∃ t : Nat, t ≤ nG ∧ c = .int .i64 t ∧ (xg.take t).all (Fsm.groupOk x1) = true ∧ Ext Nothing (w.alloc (.cells #[.int .i64 x0, .int .i64 x1, .int .i64 x2, .int .i64 x3, .slice AG nG cG, .int .i64 x5, .bool x6] 39)) wr) (fun c _ => nG - (intOf c).toNat)
           case atStart => exact ⟨0, Nat.zero_le _, rfl, rfl, Ext.refl _ _⟩
           case round =>
            obtain ⟨t, ht, rfl, hall, hx⟩ := hrel
            have hJ := hJ0.e0 hx
            have j4 : wr.cell? ⟨w.heap.size, 4, none⟩ = some (.slice AG nG cG) := hJ.cell 4
            by_cases hlt : t < nG
            ·obtain ⟨hgn, b, off, hAe, hce⟩ := hG.get (hx0.tr hx) hlt
             have hnx : xg.take (t + 1) = xg.take t ++ [xg[t]] := by rw [List.take_add_one, List.getElem?_eq_getElem hgn]; rfl
             have hmem : xg[t] ∈ xg := List.getElem_mem hgn
             generalize xg[t] = G at hce hnx hmem
             obtain ⟨g0, ⟨g1, g2⟩⟩ := G
             have hbad : Fsm.groupOk x1 ⟨g0, ⟨g1, g2⟩⟩ = false → Fsm.jobOk ⟨x0, x1, x2, x3, xg, x5, x6⟩ = false := fun e => HALL false (by rw [List.all_eq_false]; exact ⟨_, hmem, by rw [e]; exact Bool.false_ne_true⟩)
             have hnext : Fsm.groupOk x1 ⟨g0, ⟨g1, g2⟩⟩ = true → (xg.take (t + 1)).all (Fsm.groupOk x1) = true := fun e => by rw [hnx, List.all_append, hall]; simp [e]
             rw [hAe] at j4
             have HA := Lib.hid hAe
             have HT := Lib.hid hlt
             have hk0 : (0 : Int) ≤ (t : Int) := by omega
             have hk1 : (t : Int) < nG := by omega
             have hGx : Ext Nothing wr (wr.alloc (.cells #[.int .i64 g0, .int .i64 g1, .int .i64 g2] 116)) := Ext.auto
             have j1 : (wr.alloc (.cells #[.int .i64 g0, .int .i64 g1, .int .i64 g2] 116)).cell? ⟨w.heap.size, 1, none⟩ = some (.int .i64 x1) := (hJ.e0 hGx).cell 1
             have hxr0 : Ext Nothing (w.alloc (.cells #[.int .i64 x0, .int .i64 x1, .int .i64 x2, .int .i64 x3, .slice AG nG cG, .int .i64 x5, .bool x6] 39)) (wr.alloc (.cells #[.int .i64 g0, .int .i64 g1, .int .i64 g2] 116)) := hx.tr hGx
             have hxr : Ext Nothing w (wr.alloc (.cells #[.int .i64 g0, .int .i64 g1, .int .i64 g2] 116)) := hx0.tr hxr0
             have HM := Lib.hid hmem
             clear hAe hnx hmem hall
             go_upto_region 9 with (first | ((with_reducible refine isW ?_); refine wpList_load_at rfl 116 _ rfl STGrp b (off + t * 3) rfl #[.int .i64 g0, .int .i64 g1, .int .i64 g2] hce rfl ?_))
             by_cases q0 : g0 < 0
             ·have e0 : decide (g0 < 0) = true := by simpa using q0
              have hgk : Fsm.groupOk x1 ⟨g0, ⟨g1, g2⟩⟩ = false := Bool.eq_false_iff.2 (fun h => by simp only [Fsm.groupOk, Bool.and_eq_true, decide_eq_true_eq] at h; obtain ⟨⟨⟨⟨⟨⟨_, _⟩, _⟩, _⟩, _⟩, _⟩, _⟩ := h; have hbg : Fsm.big40 = 1099511627776 := rfl; omega)
              have H := Lib.hid (jobErr_no (hbad hgk))
              go_wp2_with (first | go_skip | go_guarded)
              go_ret
              exact ⟨by rw [H.out]; rfl, hxr⟩
             ·have e0 : decide (g0 < 0) = false := by simpa using q0
              by_cases q1 : 4 < g0
              ·have e1 : decide (4 < g0) = true := by simpa using q1
               have hgk : Fsm.groupOk x1 ⟨g0, ⟨g1, g2⟩⟩ = false := Bool.eq_false_iff.2 (fun h => by simp only [Fsm.groupOk, Bool.and_eq_true, decide_eq_true_eq] at h; obtain ⟨⟨⟨⟨⟨⟨_, _⟩, _⟩, _⟩, _⟩, _⟩, _⟩ := h; have hbg : Fsm.big40 = 1099511627776 := rfl; omega)
               have H := Lib.hid (jobErr_no (hbad hgk))
               go_wp2_with (first | go_skip | go_guarded)
               go_ret
               exact ⟨by rw [H.out]; rfl, hxr⟩
              ·have e1 : decide (4 < g0) = false := by simpa using q1
               by_cases q2 : g1 < 0
               ·have e2 : decide (g1 < 0) = true := by simpa using q2
                have hgk : Fsm.groupOk x1 ⟨g0, ⟨g1, g2⟩⟩ = false := Bool.eq_false_iff.2 (fun h => by simp only [Fsm.groupOk, Bool.and_eq_true, decide_eq_true_eq] at h; obtain ⟨⟨⟨⟨⟨⟨_, _⟩, _⟩, _⟩, _⟩, _⟩, _⟩ := h; have hbg : Fsm.big40 = 1099511627776 := rfl; omega)
                have H := Lib.hid (jobErr_no (hbad hgk))
                go_wp2_with (first | go_skip | go_guarded)
                go_ret
                exact ⟨by rw [H.out]; rfl, hxr⟩
               ·have e2 : decide (g1 < 0) = false := by simpa using q2
                by_cases q3 : 1099511627776 < g1
                ·have e3 : decide (1099511627776 < g1) = true := by simpa using q3
                 have hgk : Fsm.groupOk x1 ⟨g0, ⟨g1, g2⟩⟩ = false := Bool.eq_false_iff.2 (fun h => by simp only [Fsm.groupOk, Bool.and_eq_true, decide_eq_true_eq] at h; obtain ⟨⟨⟨⟨⟨⟨_, _⟩, _⟩, _⟩, _⟩, _⟩, _⟩ := h; have hbg : Fsm.big40 = 1099511627776 := rfl; omega)
                 have H := Lib.hid (jobErr_no (hbad hgk))
                 go_wp2_with (first | go_skip | go_guarded)
                 go_ret
                 exact ⟨by rw [H.out]; rfl, hxr⟩
                ·have e3 : decide (1099511627776 < g1) = false := by simpa using q3
                 by_cases q4 : g2 < 0
                 ·have e4 : decide (g2 < 0) = true := by simpa using q4
                  have hgk : Fsm.groupOk x1 ⟨g0, ⟨g1, g2⟩⟩ = false := Bool.eq_false_iff.2 (fun h => by simp only [Fsm.groupOk, Bool.and_eq_true, decide_eq_true_eq] at h; obtain ⟨⟨⟨⟨⟨⟨_, _⟩, _⟩, _⟩, _⟩, _⟩, _⟩ := h; have hbg : Fsm.big40 = 1099511627776 := rfl; omega)
                  have H := Lib.hid (jobErr_no (hbad hgk))
                  go_wp2_with (first | go_skip | go_guarded)
                  go_ret
                  exact ⟨by rw [H.out]; rfl, hxr⟩
                 ·have e4 : decide (g2 < 0) = false := by simpa using q4
                  by_cases q5 : 1099511627776 < g2
                  ·have e5 : decide (1099511627776 < g2) = true := by simpa using q5
                   have hgk : Fsm.groupOk x1 ⟨g0, ⟨g1, g2⟩⟩ = false := Bool.eq_false_iff.2 (fun h => by simp only [Fsm.groupOk, Bool.and_eq_true, decide_eq_true_eq] at h; obtain ⟨⟨⟨⟨⟨⟨_, _⟩, _⟩, _⟩, _⟩, _⟩, _⟩ := h; have hbg : Fsm.big40 = 1099511627776 := rfl; omega)
                   have H := Lib.hid (jobErr_no (hbad hgk))
                   go_wp2_with (first | go_skip | go_guarded)
                   go_ret
                   exact ⟨by rw [H.out]; rfl, hxr⟩
                  ·have e5 : decide (1099511627776 < g2) = false := by simpa using q5
                   cases z3 : (x1 == 3) with
                   | false =>
                    have hgk : Fsm.groupOk x1 ⟨g0, ⟨g1, g2⟩⟩ = true := by unfold Fsm.groupOk; rw [z3]; simp; have hbg : Fsm.big40 = 1099511627776 := rfl; omega
                    have HN := Lib.hid (hnext hgk)
                    go_wp2_with (first | go_skip | go_guarded)
                    go_roundw
                    case rel => exact ⟨t + 1, HT.out, by go_num, HN.out, hxr0⟩
                    case measure => have := HT.out; simp [intOf]; have hbg : Fsm.big40 = 1099511627776 := rfl; omega
                   | true =>
                    cases z1 : (g0 != 1) with
                    | true =>
                     have hgk : Fsm.groupOk x1 ⟨g0, ⟨g1, g2⟩⟩ = false := by unfold Fsm.groupOk; rw [z3, show (g0 == 1) = false from by simpa using z1]; simp
                     have H := Lib.hid (jobErr_no (hbad hgk))
                     go_wp2_with (first | go_skip | go_guarded)
                     go_ret
                     exact ⟨by rw [H.out]; rfl, hxr⟩
                    | false =>
                     have hgk : Fsm.groupOk x1 ⟨g0, ⟨g1, g2⟩⟩ = true := by unfold Fsm.groupOk; rw [z3, show (g0 == 1) = true from by simpa using z1]; simp; have hbg : Fsm.big40 = 1099511627776 := rfl; omega
                     have HN := Lib.hid (hnext hgk)
                     go_wp2_with (first | go_skip | go_guarded)
                     go_roundw
                     case rel => exact ⟨t + 1, HT.out, by go_num, HN.out, hxr0⟩
                     case measure => have := HT.out; simp [intOf]; have hbg : Fsm.big40 = 1099511627776 := rfl; omega
            ·have hnl : ¬ ((t : Int) < nG) := by omega
             have H := Lib.hid (jobErr_ok <| HALL true (by rw [List.take_of_length_le (by have := HGL.out; have hbg : Fsm.big40 = 1099511627776 := rfl; omega)] at hall; exact hall))
             clear hall
             go_wp2_with (first | go_skip | go_guarded)
             go_ret
             exact ⟨by rw [H.out]; rfl, hx0.tr hx⟩
end Go.Proofs.YtlpfcmnnmdhaoaaGreat
