/- Parts of the proof: LookF -/
import Derived.Test.YtlpfcmnnmdhaoaaGreatQ05
import Derived.Test.YtlpfcmnnmdhaoaaGreatQ02
import Derived.Test.YtlpfcmnnmdhaoaaGreatQ01
namespace Go.Proofs.YtlpfcmnnmdhaoaaGreat
set_option linter.unusedVariables false
set_option linter.unusedSimpArgs false
set_option linter.unusedSectionVars false
open Go.RowKit
def fencedB (ns : List NodD) (x : AllocD) : Bool := !overB x && (match ns.find? (fun n => n.id == x.node) with | none => true | some n => !n.up || !(n.epoch == x.epoch))
set_option maxRecDepth 100000 in
set_option maxHeartbeats 4000000 in
theorem isFenced (x : AllocD) (bs : Nat) (s : StoreV) (w : World) (h : s.Ok w) (hb : Blk w bs 30 #[.int .i64 s.index, .int .i64 s.next, .slice s.AJ s.nJ s.cJ, .slice s.AS s.nS s.cS, .slice s.AN s.nN s.cN, .slice s.AA s.nA s.cA, .slice s.AE s.nE s.cE, .slice s.AD s.nD s.cD, .slice s.AX s.nX s.cX]) :
  Calls Tryz.prog 22 #[.agg (AllocD.cells x).toArray, .pointer (some ⟨bs, 0, none⟩)] w fun e w' => e = .returned (.bool (fencedB s.nodes x)) ∧ Ext Nothing w w' := by
 have hx0 : Ext Nothing w (w.alloc (.cells #[.int .i64 x.id, .int .i64 x.job, .int .i64 x.ver, .int .i64 x.group, .int .i64 x.index, .int .i64 x.node, .int .i64 x.epoch, .int .i64 x.ask.cpu, .int .i64 x.ask.mem, .bool x.stop, .int .i64 x.state] 58)) := (Ext.refl _ _).alloc _
 have hbs := hb.e0 hx0
 have hbx : Blk (w.alloc (.cells #[.int .i64 x.id, .int .i64 x.job, .int .i64 x.ver, .int .i64 x.group, .int .i64 x.index, .int .i64 x.node, .int .i64 x.epoch, .int .i64 x.ask.cpu, .int .i64 x.ask.mem, .bool x.stop, .int .i64 x.state] 58)) w.heap.size 58 #[.int .i64 x.id, .int .i64 x.job, .int .i64 x.ver, .int .i64 x.group, .int .i64 x.index, .int .i64 x.node, .int .i64 x.epoch, .int .i64 x.ask.cpu, .int .i64 x.ask.mem, .bool x.stop, .int .i64 x.state] := Blk.new _ _ _
 have hN := (h.ext0 hx0).sN
 have hmN := h.mN
 have hlN := Lib.hid h.sN.len
 show Calls Tryz.prog 22 #[.agg #[.int .i64 x.id, .int .i64 x.job, .int .i64 x.ver, .int .i64 x.group, .int .i64 x.index, .int .i64 x.node, .int .i64 x.epoch, .int .i64 x.ask.cpu, .int .i64 x.ask.mem, .bool x.stop, .int .i64 x.state], .pointer (some ⟨bs, 0, none⟩)] w _
 go_enter Tryz.func22, Tryz.ntmps22
 have HO := Lib.hid (show overB x = decide (3 ≤ x.state) from rfl)
 rcases idx_cases (fun n : NodD => n.id == x.node) s.nodes with ⟨hp, hf, _⟩ | ⟨ix, n, hp, hni, _, hf, _⟩
 ·have HP := Lib.hid hp
  clear hp
  cases hv : overB x with
  | true =>
   have HV := Lib.hid (show decide (3 ≤ x.state) = true from HO.out.symm.trans hv)
   have HB := Lib.hid (show fencedB s.nodes x = false by simp only [fencedB, hv, hf]; rfl)
   clear hv
   go_wp2_with (first | (refine wpList_load_blk rfl 30 _ rfl STStore bs rfl #[.int .i64 s.index, .int .i64 s.next, .slice s.AJ s.nJ s.cJ, .slice s.AS s.nS s.cS, .slice s.AN s.nN s.cN, .slice s.AA s.nA s.cA, .slice s.AE s.nE s.cE, .slice s.AD s.nD s.cD, .slice s.AX s.nX s.cX] (by exact hbs) rfl ?_) | (go_at_call 23; refine (findNode s.AN s.nN s.cN s.nodes x.node _ hN (by omega) _ _ _ _ _ _ _ _ _ rfl).mono ?_; rintro e w1 ⟨rfl, hx1⟩; rw [HP.out]))
   refine calm_region (by kernel_rfl) (by kernel_rfl) ?_
   have hcs : ∀ W, Ext Nothing w1 W → ∀ i, W.cell? ⟨bs, i, none⟩ = (#[.int .i64 s.index, .int .i64 s.next, .slice s.AJ s.nJ s.cJ, .slice s.AS s.nS s.cS, .slice s.AN s.nN s.cN, .slice s.AA s.nA s.cA, .slice s.AE s.nE s.cE, .slice s.AD s.nD s.cD, .slice s.AX s.nX s.cX] : Array Value)[i]? := fun W hW i => ((hbs.e0 hx1).e0 hW).cell i
   have hcx : ∀ W, Ext Nothing w1 W → ∀ i, W.cell? ⟨w.heap.size, i, none⟩ = (#[.int .i64 x.id, .int .i64 x.job, .int .i64 x.ver, .int .i64 x.group, .int .i64 x.index, .int .i64 x.node, .int .i64 x.epoch, .int .i64 x.ask.cpu, .int .i64 x.ask.mem, .bool x.stop, .int .i64 x.state] : Array Value)[i]? := fun W hW i => ((hbx.e0 hx1).e0 hW).cell i
   refine calm_val (v := .agg #[.int .i64 x.id, .int .i64 x.job, .int .i64 x.ver, .int .i64 x.group, .int .i64 x.index, .int .i64 x.node, .int .i64 x.epoch, .int .i64 x.ask.cpu, .int .i64 x.ask.mem, .bool x.stop, .int .i64 x.state]) (by kernel_rfl) ?_ ?_
   ·intro W hW
    exact run_load_struct (sz := 11) (b := w.heap.size) (off := 0) rfl STAlloc (by go_simp) (fun j u hu => by rw [Nat.zero_add, hcx W hW]; simpa using hu) rfl
   simp only [Act.put, zD, zE, zF]
   refine calm_call (v := .bool true) (f := 20) (args := #[.agg #[.int .i64 x.id, .int .i64 x.job, .int .i64 x.ver, .int .i64 x.group, .int .i64 x.index, .int .i64 x.node, .int .i64 x.epoch, .int .i64 x.ask.cpu, .int .i64 x.ask.mem, .bool x.stop, .int .i64 x.state]]) (by kernel_rfl) (fun W hW => by go_simp) (fun W hW => (over_any #[.int .i64 x.id, .int .i64 x.job, .int .i64 x.ver, .int .i64 x.group, .int .i64 x.index, .int .i64 x.node, .int .i64 x.epoch, .int .i64 x.ask.cpu, .int .i64 x.ask.mem, .bool x.stop, .int .i64 x.state] x.state W rfl rfl).mono fun e w' ⟨he, hx⟩ => ⟨by rw [he, HV.out], hW.tr hx⟩) ?_
   simp only [Act.put, zD, zE, zF]
   refine calm_val (v := .bool false) (by kernel_rfl) ?_ ?_
   ·intro W hW
    go_simp
   simp only [Act.put, zD, zE, zF]
   refine calm_val (v := .bool false) (by kernel_rfl) ?_ ?_
   ·intro W hW
    go_simp
   simp only [Act.put, zD, zE, zF]
   refine calm_skip (by kernel_rfl) ?_
   simp only [Act.put, zD, zE, zF]
   refine calm_skip (by kernel_rfl) ?_
   simp only [Act.put, zD, zE, zF]
   refine calm_skip (by kernel_rfl) ?_
   simp only [Act.put, zD, zE, zF]
   refine calm_skip (by kernel_rfl) ?_
   simp only [Act.put, zD, zE, zF]
   refine calm_skip (by kernel_rfl) ?_
   simp only [Act.put, zD, zE, zF]
   refine calm_skip (by kernel_rfl) ?_
   simp only [Act.put, zD, zE, zF]
   refine calm_skip (by kernel_rfl) ?_
   simp only [Act.put, zD, zE, zF]
   refine calm_skip (by kernel_rfl) ?_
   simp only [Act.put, zD, zE, zF]
   refine calm_skip (by kernel_rfl) ?_
   simp only [Act.put, zD, zE, zF]
   refine calm_skip (by kernel_rfl) ?_
   simp only [Act.put, zD, zE, zF]
   refine calm_skip (by kernel_rfl) ?_
   simp only [Act.put, zD, zE, zF]
   refine calm_skip (by kernel_rfl) ?_
   simp only [Act.put, zD, zE, zF]
   refine calm_skip (by kernel_rfl) ?_
   simp only [Act.put, zD, zE, zF]
   refine calm_skip (by kernel_rfl) ?_
   simp only [Act.put, zD, zE, zF]
   refine calm_skip (by kernel_rfl) ?_
   simp only [Act.put, zD, zE, zF]
   refine calm_skip (by kernel_rfl) ?_
   simp only [Act.put, zD, zE, zF]
   refine calm_skip (by kernel_rfl) ?_
   simp only [Act.put, zD, zE, zF]
   refine calm_skip (by kernel_rfl) ?_
   simp only [Act.put, zD, zE, zF]
   refine calm_skip (by kernel_rfl) ?_
   simp only [Act.put, zD, zE, zF]
   refine calm_skip (by kernel_rfl) ?_
   simp only [Act.put, zD, zE, zF]
   refine calm_skip (by kernel_rfl) ?_
   simp only [Act.put, zD, zE, zF]
   refine calm_skip (by kernel_rfl) ?_
   simp only [Act.put, zD, zE, zF]
   refine calm_val (v := .bool false) (by kernel_rfl) ?_ ?_
   ·intro W hW
    go_simp
   simp only [Act.put, zD, zE, zF]
   refine calm_val (v := .bool false) (by kernel_rfl) ?_ ?_
   ·intro W hW
    go_simp
   simp only [Act.put, zD, zE, zF]
   refine calm_nil (fun W hW => ?_)
   clear hcs hcx
   go_wp2
   go_ret
   exact ⟨by rw [HB.out]; rfl, (hx0.tr hx1).tr hW⟩
  | false =>
   have HV := Lib.hid (show decide (3 ≤ x.state) = false from HO.out.symm.trans hv)
   have HB := Lib.hid (show fencedB s.nodes x = true by simp only [fencedB, hv, hf]; rfl)
   clear hv
   go_wp2_with (first | (refine wpList_load_blk rfl 30 _ rfl STStore bs rfl #[.int .i64 s.index, .int .i64 s.next, .slice s.AJ s.nJ s.cJ, .slice s.AS s.nS s.cS, .slice s.AN s.nN s.cN, .slice s.AA s.nA s.cA, .slice s.AE s.nE s.cE, .slice s.AD s.nD s.cD, .slice s.AX s.nX s.cX] (by exact hbs) rfl ?_) | (go_at_call 23; refine (findNode s.AN s.nN s.cN s.nodes x.node _ hN (by omega) _ _ _ _ _ _ _ _ _ rfl).mono ?_; rintro e w1 ⟨rfl, hx1⟩; rw [HP.out]))
   refine calm_region (by kernel_rfl) (by kernel_rfl) ?_
   have hcs : ∀ W, Ext Nothing w1 W → ∀ i, W.cell? ⟨bs, i, none⟩ = (#[.int .i64 s.index, .int .i64 s.next, .slice s.AJ s.nJ s.cJ, .slice s.AS s.nS s.cS, .slice s.AN s.nN s.cN, .slice s.AA s.nA s.cA, .slice s.AE s.nE s.cE, .slice s.AD s.nD s.cD, .slice s.AX s.nX s.cX] : Array Value)[i]? := fun W hW i => ((hbs.e0 hx1).e0 hW).cell i
   have hcx : ∀ W, Ext Nothing w1 W → ∀ i, W.cell? ⟨w.heap.size, i, none⟩ = (#[.int .i64 x.id, .int .i64 x.job, .int .i64 x.ver, .int .i64 x.group, .int .i64 x.index, .int .i64 x.node, .int .i64 x.epoch, .int .i64 x.ask.cpu, .int .i64 x.ask.mem, .bool x.stop, .int .i64 x.state] : Array Value)[i]? := fun W hW i => ((hbx.e0 hx1).e0 hW).cell i
   refine calm_val (v := .agg #[.int .i64 x.id, .int .i64 x.job, .int .i64 x.ver, .int .i64 x.group, .int .i64 x.index, .int .i64 x.node, .int .i64 x.epoch, .int .i64 x.ask.cpu, .int .i64 x.ask.mem, .bool x.stop, .int .i64 x.state]) (by kernel_rfl) ?_ ?_
   ·intro W hW
    exact run_load_struct (sz := 11) (b := w.heap.size) (off := 0) rfl STAlloc (by go_simp) (fun j u hu => by rw [Nat.zero_add, hcx W hW]; simpa using hu) rfl
   simp only [Act.put, zD, zE, zF]
   refine calm_call (v := .bool false) (f := 20) (args := #[.agg #[.int .i64 x.id, .int .i64 x.job, .int .i64 x.ver, .int .i64 x.group, .int .i64 x.index, .int .i64 x.node, .int .i64 x.epoch, .int .i64 x.ask.cpu, .int .i64 x.ask.mem, .bool x.stop, .int .i64 x.state]]) (by kernel_rfl) (fun W hW => by go_simp) (fun W hW => (over_any #[.int .i64 x.id, .int .i64 x.job, .int .i64 x.ver, .int .i64 x.group, .int .i64 x.index, .int .i64 x.node, .int .i64 x.epoch, .int .i64 x.ask.cpu, .int .i64 x.ask.mem, .bool x.stop, .int .i64 x.state] x.state W rfl rfl).mono fun e w' ⟨he, hx⟩ => ⟨by rw [he, HV.out], hW.tr hx⟩) ?_
   simp only [Act.put, zD, zE, zF]
   refine calm_val (v := .bool true) (by kernel_rfl) ?_ ?_
   ·intro W hW
    go_simp
   simp only [Act.put, zD, zE, zF]
   refine calm_val (v := .bool true) (by kernel_rfl) ?_ ?_
   ·intro W hW
    go_simp
   simp only [Act.put, zD, zE, zF]
   refine calm_val (v := .int .i64 (-1)) (by kernel_rfl) ?_ ?_
   ·intro W hW
    go_simp
   simp only [Act.put, zD, zE, zF]
   refine calm_val (v := .bool true) (by kernel_rfl) ?_ ?_
   ·intro W hW
    go_simp
   simp only [Act.put, zD, zE, zF]
   refine calm_val (v := .bool true) (by kernel_rfl) ?_ ?_
   ·intro W hW
    go_simp
   simp only [Act.put, zD, zE, zF]
   refine calm_skip (by kernel_rfl) ?_
   simp only [Act.put, zD, zE, zF]
   refine calm_skip (by kernel_rfl) ?_
   simp only [Act.put, zD, zE, zF]
   refine calm_skip (by kernel_rfl) ?_
   simp only [Act.put, zD, zE, zF]
   refine calm_skip (by kernel_rfl) ?_
   simp only [Act.put, zD, zE, zF]
   refine calm_skip (by kernel_rfl) ?_
   simp only [Act.put, zD, zE, zF]
   refine calm_skip (by kernel_rfl) ?_
   simp only [Act.put, zD, zE, zF]
   refine calm_skip (by kernel_rfl) ?_
   simp only [Act.put, zD, zE, zF]
   refine calm_val (v := .bool true) (by kernel_rfl) ?_ ?_
   ·intro W hW
    go_simp
   simp only [Act.put, zD, zE, zF]
   refine calm_val (v := .bool true) (by kernel_rfl) ?_ ?_
   ·intro W hW
    go_simp
   simp only [Act.put, zD, zE, zF]
   refine calm_skip (by kernel_rfl) ?_
   simp only [Act.put, zD, zE, zF]
   refine calm_skip (by kernel_rfl) ?_
   simp only [Act.put, zD, zE, zF]
   refine calm_skip (by kernel_rfl) ?_
   simp only [Act.put, zD, zE, zF]
   refine calm_skip (by kernel_rfl) ?_
   simp only [Act.put, zD, zE, zF]
   refine calm_skip (by kernel_rfl) ?_
   simp only [Act.put, zD, zE, zF]
   refine calm_skip (by kernel_rfl) ?_
   simp only [Act.put, zD, zE, zF]
   refine calm_skip (by kernel_rfl) ?_
   simp only [Act.put, zD, zE, zF]
   refine calm_skip (by kernel_rfl) ?_
   simp only [Act.put, zD, zE, zF]
   refine calm_skip (by kernel_rfl) ?_
   simp only [Act.put, zD, zE, zF]
   refine calm_val (v := .bool true) (by kernel_rfl) ?_ ?_
   ·intro W hW
    go_simp
   simp only [Act.put, zD, zE, zF]
   refine calm_val (v := .bool true) (by kernel_rfl) ?_ ?_
   ·intro W hW
    go_simp
   simp only [Act.put, zD, zE, zF]
   refine calm_val (v := .bool true) (by kernel_rfl) ?_ ?_
   ·intro W hW
    go_simp
   simp only [Act.put, zD, zE, zF]
   refine calm_nil (fun W hW => ?_)
   clear hcs hcx
   go_wp2
   go_ret
   exact ⟨by rw [HB.out]; rfl, (hx0.tr hx1).tr hW⟩
 ·have HP := Lib.hid hp
  clear hp
  obtain ⟨hil, hni⟩ := List.getElem?_eq_some_iff.1 hni
  have hin : ix < s.nN := by have := hlN.out; omega
  have hk0 : (0 : Int) ≤ (ix : Int) := by omega
  have hk1 : (ix : Int) < s.nN := by omega
  have hk2 : ¬ ((ix : Int) < 0) := by omega
  obtain ⟨_, d, f, hAe, hce⟩ := h.sN.get hx0 hin
  rw [hni] at hce
  have HA := Lib.hid hAe
  clear hAe hni
  cases hv : overB x with
  | true =>
   have HV := Lib.hid (show decide (3 ≤ x.state) = true from HO.out.symm.trans hv)
   have HB := Lib.hid (show fencedB s.nodes x = false by simp only [fencedB, hv, hf]; rfl)
   clear hv hf
   go_wp2_with (first | (refine wpList_load_blk rfl 30 _ rfl STStore bs rfl #[.int .i64 s.index, .int .i64 s.next, .slice s.AJ s.nJ s.cJ, .slice s.AS s.nS s.cS, .slice s.AN s.nN s.cN, .slice s.AA s.nA s.cA, .slice s.AE s.nE s.cE, .slice s.AD s.nD s.cD, .slice s.AX s.nX s.cX] (by exact hbs) rfl ?_) | (go_at_call 23; refine (findNode s.AN s.nN s.cN s.nodes x.node _ hN (by omega) _ _ _ _ _ _ _ _ _ rfl).mono ?_; rintro e w1 ⟨rfl, hx1⟩; rw [HP.out]))
   refine calm_region (by kernel_rfl) (by kernel_rfl) ?_
   have hcs : ∀ W, Ext Nothing w1 W → ∀ i, W.cell? ⟨bs, i, none⟩ = (#[.int .i64 s.index, .int .i64 s.next, .slice s.AJ s.nJ s.cJ, .slice s.AS s.nS s.cS, .slice s.AN s.nN s.cN, .slice s.AA s.nA s.cA, .slice s.AE s.nE s.cE, .slice s.AD s.nD s.cD, .slice s.AX s.nX s.cX] : Array Value)[i]? := fun W hW i => ((hbs.e0 hx1).e0 hW).cell i
   have hcx : ∀ W, Ext Nothing w1 W → ∀ i, W.cell? ⟨w.heap.size, i, none⟩ = (#[.int .i64 x.id, .int .i64 x.job, .int .i64 x.ver, .int .i64 x.group, .int .i64 x.index, .int .i64 x.node, .int .i64 x.epoch, .int .i64 x.ask.cpu, .int .i64 x.ask.mem, .bool x.stop, .int .i64 x.state] : Array Value)[i]? := fun W hW i => ((hbx.e0 hx1).e0 hW).cell i
   refine calm_val (v := .agg #[.int .i64 x.id, .int .i64 x.job, .int .i64 x.ver, .int .i64 x.group, .int .i64 x.index, .int .i64 x.node, .int .i64 x.epoch, .int .i64 x.ask.cpu, .int .i64 x.ask.mem, .bool x.stop, .int .i64 x.state]) (by kernel_rfl) ?_ ?_
   ·intro W hW
    exact run_load_struct (sz := 11) (b := w.heap.size) (off := 0) rfl STAlloc (by go_simp) (fun j u hu => by rw [Nat.zero_add, hcx W hW]; simpa using hu) rfl
   simp only [Act.put, zD, zE, zF]
   refine calm_call (v := .bool true) (f := 20) (args := #[.agg #[.int .i64 x.id, .int .i64 x.job, .int .i64 x.ver, .int .i64 x.group, .int .i64 x.index, .int .i64 x.node, .int .i64 x.epoch, .int .i64 x.ask.cpu, .int .i64 x.ask.mem, .bool x.stop, .int .i64 x.state]]) (by kernel_rfl) (fun W hW => by go_simp) (fun W hW => (over_any #[.int .i64 x.id, .int .i64 x.job, .int .i64 x.ver, .int .i64 x.group, .int .i64 x.index, .int .i64 x.node, .int .i64 x.epoch, .int .i64 x.ask.cpu, .int .i64 x.ask.mem, .bool x.stop, .int .i64 x.state] x.state W rfl rfl).mono fun e w' ⟨he, hx⟩ => ⟨by rw [he, HV.out], hW.tr hx⟩) ?_
   simp only [Act.put, zD, zE, zF]
   refine calm_val (v := .bool false) (by kernel_rfl) ?_ ?_
   ·intro W hW
    go_simp
   simp only [Act.put, zD, zE, zF]
   refine calm_val (v := .bool false) (by kernel_rfl) ?_ ?_
   ·intro W hW
    go_simp
   simp only [Act.put, zD, zE, zF]
   refine calm_skip (by kernel_rfl) ?_
   simp only [Act.put, zD, zE, zF]
   refine calm_skip (by kernel_rfl) ?_
   simp only [Act.put, zD, zE, zF]
   refine calm_skip (by kernel_rfl) ?_
   simp only [Act.put, zD, zE, zF]
   refine calm_skip (by kernel_rfl) ?_
   simp only [Act.put, zD, zE, zF]
   refine calm_skip (by kernel_rfl) ?_
   simp only [Act.put, zD, zE, zF]
   refine calm_skip (by kernel_rfl) ?_
   simp only [Act.put, zD, zE, zF]
   refine calm_skip (by kernel_rfl) ?_
   simp only [Act.put, zD, zE, zF]
   refine calm_skip (by kernel_rfl) ?_
   simp only [Act.put, zD, zE, zF]
   refine calm_skip (by kernel_rfl) ?_
   simp only [Act.put, zD, zE, zF]
   refine calm_skip (by kernel_rfl) ?_
   simp only [Act.put, zD, zE, zF]
   refine calm_skip (by kernel_rfl) ?_
   simp only [Act.put, zD, zE, zF]
   refine calm_skip (by kernel_rfl) ?_
   simp only [Act.put, zD, zE, zF]
   refine calm_skip (by kernel_rfl) ?_
   simp only [Act.put, zD, zE, zF]
   refine calm_skip (by kernel_rfl) ?_
   simp only [Act.put, zD, zE, zF]
   refine calm_skip (by kernel_rfl) ?_
   simp only [Act.put, zD, zE, zF]
   refine calm_skip (by kernel_rfl) ?_
   simp only [Act.put, zD, zE, zF]
   refine calm_skip (by kernel_rfl) ?_
   simp only [Act.put, zD, zE, zF]
   refine calm_skip (by kernel_rfl) ?_
   simp only [Act.put, zD, zE, zF]
   refine calm_skip (by kernel_rfl) ?_
   simp only [Act.put, zD, zE, zF]
   refine calm_skip (by kernel_rfl) ?_
   simp only [Act.put, zD, zE, zF]
   refine calm_skip (by kernel_rfl) ?_
   simp only [Act.put, zD, zE, zF]
   refine calm_skip (by kernel_rfl) ?_
   simp only [Act.put, zD, zE, zF]
   refine calm_val (v := .bool false) (by kernel_rfl) ?_ ?_
   ·intro W hW
    go_simp
   simp only [Act.put, zD, zE, zF]
   refine calm_val (v := .bool false) (by kernel_rfl) ?_ ?_
   ·intro W hW
    go_simp
   simp only [Act.put, zD, zE, zF]
   refine calm_nil (fun W hW => ?_)
   clear hcs hcx
   go_wp2
   go_ret
   exact ⟨by rw [HB.out]; rfl, (hx0.tr hx1).tr hW⟩
  | false =>
   have HV := Lib.hid (show decide (3 ≤ x.state) = false from HO.out.symm.trans hv)
   obtain ⟨n0, n1, n2, n3, n4, n5, n6⟩ := n
   cases n2 with
   | false =>
    have HB := Lib.hid (show fencedB s.nodes x = true by simp only [fencedB, hv, hf]; rfl)
    clear hv hf
    go_wp2_with (first | (refine wpList_load_blk rfl 30 _ rfl STStore bs rfl #[.int .i64 s.index, .int .i64 s.next, .slice s.AJ s.nJ s.cJ, .slice s.AS s.nS s.cS, .slice s.AN s.nN s.cN, .slice s.AA s.nA s.cA, .slice s.AE s.nE s.cE, .slice s.AD s.nD s.cD, .slice s.AX s.nX s.cX] (by exact hbs) rfl ?_) | (go_at_call 23; refine (findNode s.AN s.nN s.cN s.nodes x.node _ hN (by omega) _ _ _ _ _ _ _ _ _ rfl).mono ?_; rintro e w1 ⟨rfl, hx1⟩; rw [HP.out]))
    refine calm_region (by kernel_rfl) (by kernel_rfl) ?_
    have hcs : ∀ W, Ext Nothing w1 W → ∀ i, W.cell? ⟨bs, i, none⟩ = (#[.int .i64 s.index, .int .i64 s.next, .slice s.AJ s.nJ s.cJ, .slice s.AS s.nS s.cS, .slice s.AN s.nN s.cN, .slice s.AA s.nA s.cA, .slice s.AE s.nE s.cE, .slice s.AD s.nD s.cD, .slice s.AX s.nX s.cX] : Array Value)[i]? := fun W hW i => ((hbs.e0 hx1).e0 hW).cell i
    have hcx : ∀ W, Ext Nothing w1 W → ∀ i, W.cell? ⟨w.heap.size, i, none⟩ = (#[.int .i64 x.id, .int .i64 x.job, .int .i64 x.ver, .int .i64 x.group, .int .i64 x.index, .int .i64 x.node, .int .i64 x.epoch, .int .i64 x.ask.cpu, .int .i64 x.ask.mem, .bool x.stop, .int .i64 x.state] : Array Value)[i]? := fun W hW i => ((hbx.e0 hx1).e0 hW).cell i
    refine calm_val (v := .agg #[.int .i64 x.id, .int .i64 x.job, .int .i64 x.ver, .int .i64 x.group, .int .i64 x.index, .int .i64 x.node, .int .i64 x.epoch, .int .i64 x.ask.cpu, .int .i64 x.ask.mem, .bool x.stop, .int .i64 x.state]) (by kernel_rfl) ?_ ?_
    ·intro W hW
     exact run_load_struct (sz := 11) (b := w.heap.size) (off := 0) rfl STAlloc (by go_simp) (fun j u hu => by rw [Nat.zero_add, hcx W hW]; simpa using hu) rfl
    simp only [Act.put, zD, zE, zF]
    refine calm_call (v := .bool false) (f := 20) (args := #[.agg #[.int .i64 x.id, .int .i64 x.job, .int .i64 x.ver, .int .i64 x.group, .int .i64 x.index, .int .i64 x.node, .int .i64 x.epoch, .int .i64 x.ask.cpu, .int .i64 x.ask.mem, .bool x.stop, .int .i64 x.state]]) (by kernel_rfl) (fun W hW => by go_simp) (fun W hW => (over_any #[.int .i64 x.id, .int .i64 x.job, .int .i64 x.ver, .int .i64 x.group, .int .i64 x.index, .int .i64 x.node, .int .i64 x.epoch, .int .i64 x.ask.cpu, .int .i64 x.ask.mem, .bool x.stop, .int .i64 x.state] x.state W rfl rfl).mono fun e w' ⟨he, hx⟩ => ⟨by rw [he, HV.out], hW.tr hx⟩) ?_
    simp only [Act.put, zD, zE, zF]
    refine calm_val (v := .bool true) (by kernel_rfl) ?_ ?_
    ·intro W hW
     go_simp
    simp only [Act.put, zD, zE, zF]
    refine calm_val (v := .bool true) (by kernel_rfl) ?_ ?_
    ·intro W hW
     go_simp
    simp only [Act.put, zD, zE, zF]
    refine calm_val (v := .int .i64 (ix : Int)) (by kernel_rfl) ?_ ?_
    ·intro W hW
     go_simp
    simp only [Act.put, zD, zE, zF]
    refine calm_val (v := .bool false) (by kernel_rfl) ?_ ?_
    ·intro W hW
     go_simp
    simp only [Act.put, zD, zE, zF]
    refine calm_val (v := .bool false) (by kernel_rfl) ?_ ?_
    ·intro W hW
     go_simp
    simp only [Act.put, zD, zE, zF]
    refine calm_val (v := .pointer (some ⟨bs, 4, none⟩)) (by kernel_rfl) ?_ ?_
    ·intro W hW
     go_simp
    simp only [Act.put, zD, zE, zF]
    refine calm_val (v := .slice (some ⟨d, f, none⟩) s.nN s.cN) (by kernel_rfl) ?_ ?_
    ·intro W hW
     have q4 : W.cell? ⟨bs, 4, none⟩ = some (.slice s.AN s.nN s.cN) := hcs W hW 4
     clear q4
     go_simp
     exact HA.out
    simp only [Act.put, zD, zE, zF]
    refine calm_val (v := .int .i64 (ix : Int)) (by kernel_rfl) ?_ ?_
    ·intro W hW
     go_simp
    simp only [Act.put, zD, zE, zF]
    refine calm_val (v := .pointer (some ⟨d, f + ix * 8, none⟩)) (by kernel_rfl) ?_ ?_
    ·intro W hW
     go_simp
    simp only [Act.put, zD, zE, zF]
    refine calm_val (v := .pointer (some ⟨d, f + ix * 8 + 3, none⟩)) (by kernel_rfl) ?_ ?_
    ·intro W hW
     go_simp
    simp only [Act.put, zD, zE, zF]
    refine calm_val (v := .bool false) (by kernel_rfl) ?_ ?_
    ·intro W hW
     have q5 : W.cell? ⟨d, f + ix * 8 + 3, none⟩ = some (.bool false) := (hx1.tr hW).cell (hce 3 _ rfl) (fun e => e)
     go_simp
    simp only [Act.put, zD, zE, zF]
    refine calm_val (v := .bool true) (by kernel_rfl) ?_ ?_
    ·intro W hW
     go_simp
    simp only [Act.put, zD, zE, zF]
    refine calm_val (v := .bool true) (by kernel_rfl) ?_ ?_
    ·intro W hW
     go_simp
    simp only [Act.put, zD, zE, zF]
    refine calm_val (v := .bool true) (by kernel_rfl) ?_ ?_
    ·intro W hW
     go_simp
    simp only [Act.put, zD, zE, zF]
    refine calm_skip (by kernel_rfl) ?_
    simp only [Act.put, zD, zE, zF]
    refine calm_skip (by kernel_rfl) ?_
    simp only [Act.put, zD, zE, zF]
    refine calm_skip (by kernel_rfl) ?_
    simp only [Act.put, zD, zE, zF]
    refine calm_skip (by kernel_rfl) ?_
    simp only [Act.put, zD, zE, zF]
    refine calm_skip (by kernel_rfl) ?_
    simp only [Act.put, zD, zE, zF]
    refine calm_skip (by kernel_rfl) ?_
    simp only [Act.put, zD, zE, zF]
    refine calm_skip (by kernel_rfl) ?_
    simp only [Act.put, zD, zE, zF]
    refine calm_skip (by kernel_rfl) ?_
    simp only [Act.put, zD, zE, zF]
    refine calm_skip (by kernel_rfl) ?_
    simp only [Act.put, zD, zE, zF]
    refine calm_val (v := .bool true) (by kernel_rfl) ?_ ?_
    ·intro W hW
     go_simp
    simp only [Act.put, zD, zE, zF]
    refine calm_val (v := .bool true) (by kernel_rfl) ?_ ?_
    ·intro W hW
     go_simp
    simp only [Act.put, zD, zE, zF]
    refine calm_val (v := .bool true) (by kernel_rfl) ?_ ?_
    ·intro W hW
     go_simp
    simp only [Act.put, zD, zE, zF]
    refine calm_nil (fun W hW => ?_)
    clear hcs hcx
    go_wp2
    go_ret
    exact ⟨by rw [HB.out]; rfl, (hx0.tr hx1).tr hW⟩
   | true =>
    cases he : (n5 == x.epoch) with
    | true =>
     have HB := Lib.hid (show fencedB s.nodes x = false by simp only [fencedB, hv, hf, he]; rfl)
     have HE := Lib.hid he
     clear hv hf he
     go_wp2_with (first | (refine wpList_load_blk rfl 30 _ rfl STStore bs rfl #[.int .i64 s.index, .int .i64 s.next, .slice s.AJ s.nJ s.cJ, .slice s.AS s.nS s.cS, .slice s.AN s.nN s.cN, .slice s.AA s.nA s.cA, .slice s.AE s.nE s.cE, .slice s.AD s.nD s.cD, .slice s.AX s.nX s.cX] (by exact hbs) rfl ?_) | (go_at_call 23; refine (findNode s.AN s.nN s.cN s.nodes x.node _ hN (by omega) _ _ _ _ _ _ _ _ _ rfl).mono ?_; rintro e w1 ⟨rfl, hx1⟩; rw [HP.out]))
     refine calm_region (by kernel_rfl) (by kernel_rfl) ?_
     have hcs : ∀ W, Ext Nothing w1 W → ∀ i, W.cell? ⟨bs, i, none⟩ = (#[.int .i64 s.index, .int .i64 s.next, .slice s.AJ s.nJ s.cJ, .slice s.AS s.nS s.cS, .slice s.AN s.nN s.cN, .slice s.AA s.nA s.cA, .slice s.AE s.nE s.cE, .slice s.AD s.nD s.cD, .slice s.AX s.nX s.cX] : Array Value)[i]? := fun W hW i => ((hbs.e0 hx1).e0 hW).cell i
     have hcx : ∀ W, Ext Nothing w1 W → ∀ i, W.cell? ⟨w.heap.size, i, none⟩ = (#[.int .i64 x.id, .int .i64 x.job, .int .i64 x.ver, .int .i64 x.group, .int .i64 x.index, .int .i64 x.node, .int .i64 x.epoch, .int .i64 x.ask.cpu, .int .i64 x.ask.mem, .bool x.stop, .int .i64 x.state] : Array Value)[i]? := fun W hW i => ((hbx.e0 hx1).e0 hW).cell i
     refine calm_val (v := .agg #[.int .i64 x.id, .int .i64 x.job, .int .i64 x.ver, .int .i64 x.group, .int .i64 x.index, .int .i64 x.node, .int .i64 x.epoch, .int .i64 x.ask.cpu, .int .i64 x.ask.mem, .bool x.stop, .int .i64 x.state]) (by kernel_rfl) ?_ ?_
     ·intro W hW
      exact run_load_struct (sz := 11) (b := w.heap.size) (off := 0) rfl STAlloc (by go_simp) (fun j u hu => by rw [Nat.zero_add, hcx W hW]; simpa using hu) rfl
     simp only [Act.put, zD, zE, zF]
     refine calm_call (v := .bool false) (f := 20) (args := #[.agg #[.int .i64 x.id, .int .i64 x.job, .int .i64 x.ver, .int .i64 x.group, .int .i64 x.index, .int .i64 x.node, .int .i64 x.epoch, .int .i64 x.ask.cpu, .int .i64 x.ask.mem, .bool x.stop, .int .i64 x.state]]) (by kernel_rfl) (fun W hW => by go_simp) (fun W hW => (over_any #[.int .i64 x.id, .int .i64 x.job, .int .i64 x.ver, .int .i64 x.group, .int .i64 x.index, .int .i64 x.node, .int .i64 x.epoch, .int .i64 x.ask.cpu, .int .i64 x.ask.mem, .bool x.stop, .int .i64 x.state] x.state W rfl rfl).mono fun e w' ⟨he, hx⟩ => ⟨by rw [he, HV.out], hW.tr hx⟩) ?_
     simp only [Act.put, zD, zE, zF]
     refine calm_val (v := .bool true) (by kernel_rfl) ?_ ?_
     ·intro W hW
      go_simp
     simp only [Act.put, zD, zE, zF]
     refine calm_val (v := .bool true) (by kernel_rfl) ?_ ?_
     ·intro W hW
      go_simp
     simp only [Act.put, zD, zE, zF]
     refine calm_val (v := .int .i64 (ix : Int)) (by kernel_rfl) ?_ ?_
     ·intro W hW
      go_simp
     simp only [Act.put, zD, zE, zF]
     refine calm_val (v := .bool false) (by kernel_rfl) ?_ ?_
     ·intro W hW
      go_simp
     simp only [Act.put, zD, zE, zF]
     refine calm_val (v := .bool false) (by kernel_rfl) ?_ ?_
     ·intro W hW
      go_simp
     simp only [Act.put, zD, zE, zF]
     refine calm_val (v := .pointer (some ⟨bs, 4, none⟩)) (by kernel_rfl) ?_ ?_
     ·intro W hW
      go_simp
     simp only [Act.put, zD, zE, zF]
     refine calm_val (v := .slice (some ⟨d, f, none⟩) s.nN s.cN) (by kernel_rfl) ?_ ?_
     ·intro W hW
      have q4 : W.cell? ⟨bs, 4, none⟩ = some (.slice s.AN s.nN s.cN) := hcs W hW 4
      clear q4
      go_simp
      exact HA.out
     simp only [Act.put, zD, zE, zF]
     refine calm_val (v := .int .i64 (ix : Int)) (by kernel_rfl) ?_ ?_
     ·intro W hW
      go_simp
     simp only [Act.put, zD, zE, zF]
     refine calm_val (v := .pointer (some ⟨d, f + ix * 8, none⟩)) (by kernel_rfl) ?_ ?_
     ·intro W hW
      go_simp
     simp only [Act.put, zD, zE, zF]
     refine calm_val (v := .pointer (some ⟨d, f + ix * 8 + 3, none⟩)) (by kernel_rfl) ?_ ?_
     ·intro W hW
      go_simp
     simp only [Act.put, zD, zE, zF]
     refine calm_val (v := .bool true) (by kernel_rfl) ?_ ?_
     ·intro W hW
      have q5 : W.cell? ⟨d, f + ix * 8 + 3, none⟩ = some (.bool true) := (hx1.tr hW).cell (hce 3 _ rfl) (fun e => e)
      go_simp
     simp only [Act.put, zD, zE, zF]
     refine calm_val (v := .bool false) (by kernel_rfl) ?_ ?_
     ·intro W hW
      go_simp
     simp only [Act.put, zD, zE, zF]
     refine calm_val (v := .bool false) (by kernel_rfl) ?_ ?_
     ·intro W hW
      go_simp
     simp only [Act.put, zD, zE, zF]
     refine calm_val (v := .bool false) (by kernel_rfl) ?_ ?_
     ·intro W hW
      go_simp
     simp only [Act.put, zD, zE, zF]
     refine calm_val (v := .pointer (some ⟨bs, 4, none⟩)) (by kernel_rfl) ?_ ?_
     ·intro W hW
      go_simp
     simp only [Act.put, zD, zE, zF]
     refine calm_val (v := .slice (some ⟨d, f, none⟩) s.nN s.cN) (by kernel_rfl) ?_ ?_
     ·intro W hW
      have q4 : W.cell? ⟨bs, 4, none⟩ = some (.slice s.AN s.nN s.cN) := hcs W hW 4
      clear q4
      go_simp
      exact HA.out
     simp only [Act.put, zD, zE, zF]
     refine calm_val (v := .int .i64 (ix : Int)) (by kernel_rfl) ?_ ?_
     ·intro W hW
      go_simp
     simp only [Act.put, zD, zE, zF]
     refine calm_val (v := .pointer (some ⟨d, f + ix * 8, none⟩)) (by kernel_rfl) ?_ ?_
     ·intro W hW
      go_simp
     simp only [Act.put, zD, zE, zF]
     refine calm_val (v := .pointer (some ⟨d, f + ix * 8 + 6, none⟩)) (by kernel_rfl) ?_ ?_
     ·intro W hW
      go_simp
     simp only [Act.put, zD, zE, zF]
     refine calm_val (v := .int .i64 n5) (by kernel_rfl) ?_ ?_
     ·intro W hW
      have q5 : W.cell? ⟨d, f + ix * 8 + 6, none⟩ = some (.int .i64 n5) := (hx1.tr hW).cell (hce 6 _ rfl) (fun e => e)
      go_simp
     simp only [Act.put, zD, zE, zF]
     refine calm_val (v := .pointer (some ⟨w.heap.size, 6, none⟩)) (by kernel_rfl) ?_ ?_
     ·intro W hW
      go_simp
     simp only [Act.put, zD, zE, zF]
     refine calm_val (v := .int .i64 x.epoch) (by kernel_rfl) ?_ ?_
     ·intro W hW
      have q6 : W.cell? ⟨w.heap.size, 6, none⟩ = some (.int .i64 x.epoch) := hcx W hW 6
      go_simp
     simp only [Act.put, zD, zE, zF]
     refine calm_val (v := .bool false) (by kernel_rfl) ?_ ?_
     ·intro W hW
      go_simp
      simpa using HE.out
     simp only [Act.put, zD, zE, zF]
     refine calm_val (v := .bool false) (by kernel_rfl) ?_ ?_
     ·intro W hW
      go_simp
     simp only [Act.put, zD, zE, zF]
     refine calm_val (v := .bool false) (by kernel_rfl) ?_ ?_
     ·intro W hW
      go_simp
     simp only [Act.put, zD, zE, zF]
     refine calm_val (v := .bool false) (by kernel_rfl) ?_ ?_
     ·intro W hW
      go_simp
     simp only [Act.put, zD, zE, zF]
     refine calm_nil (fun W hW => ?_)
     clear hcs hcx
     go_wp2
     go_ret
     exact ⟨by rw [HB.out]; rfl, (hx0.tr hx1).tr hW⟩
    | false =>
     have HB := Lib.hid (show fencedB s.nodes x = true by simp only [fencedB, hv, hf, he]; rfl)
     have HE := Lib.hid he
     clear hv hf he
     go_wp2_with (first | (refine wpList_load_blk rfl 30 _ rfl STStore bs rfl #[.int .i64 s.index, .int .i64 s.next, .slice s.AJ s.nJ s.cJ, .slice s.AS s.nS s.cS, .slice s.AN s.nN s.cN, .slice s.AA s.nA s.cA, .slice s.AE s.nE s.cE, .slice s.AD s.nD s.cD, .slice s.AX s.nX s.cX] (by exact hbs) rfl ?_) | (go_at_call 23; refine (findNode s.AN s.nN s.cN s.nodes x.node _ hN (by omega) _ _ _ _ _ _ _ _ _ rfl).mono ?_; rintro e w1 ⟨rfl, hx1⟩; rw [HP.out]))
     refine calm_region (by kernel_rfl) (by kernel_rfl) ?_
     have hcs : ∀ W, Ext Nothing w1 W → ∀ i, W.cell? ⟨bs, i, none⟩ = (#[.int .i64 s.index, .int .i64 s.next, .slice s.AJ s.nJ s.cJ, .slice s.AS s.nS s.cS, .slice s.AN s.nN s.cN, .slice s.AA s.nA s.cA, .slice s.AE s.nE s.cE, .slice s.AD s.nD s.cD, .slice s.AX s.nX s.cX] : Array Value)[i]? := fun W hW i => ((hbs.e0 hx1).e0 hW).cell i
     have hcx : ∀ W, Ext Nothing w1 W → ∀ i, W.cell? ⟨w.heap.size, i, none⟩ = (#[.int .i64 x.id, .int .i64 x.job, .int .i64 x.ver, .int .i64 x.group, .int .i64 x.index, .int .i64 x.node, .int .i64 x.epoch, .int .i64 x.ask.cpu, .int .i64 x.ask.mem, .bool x.stop, .int .i64 x.state] : Array Value)[i]? := fun W hW i => ((hbx.e0 hx1).e0 hW).cell i
     refine calm_val (v := .agg #[.int .i64 x.id, .int .i64 x.job, .int .i64 x.ver, .int .i64 x.group, .int .i64 x.index, .int .i64 x.node, .int .i64 x.epoch, .int .i64 x.ask.cpu, .int .i64 x.ask.mem, .bool x.stop, .int .i64 x.state]) (by kernel_rfl) ?_ ?_
     ·intro W hW
      exact run_load_struct (sz := 11) (b := w.heap.size) (off := 0) rfl STAlloc (by go_simp) (fun j u hu => by rw [Nat.zero_add, hcx W hW]; simpa using hu) rfl
     simp only [Act.put, zD, zE, zF]
     refine calm_call (v := .bool false) (f := 20) (args := #[.agg #[.int .i64 x.id, .int .i64 x.job, .int .i64 x.ver, .int .i64 x.group, .int .i64 x.index, .int .i64 x.node, .int .i64 x.epoch, .int .i64 x.ask.cpu, .int .i64 x.ask.mem, .bool x.stop, .int .i64 x.state]]) (by kernel_rfl) (fun W hW => by go_simp) (fun W hW => (over_any #[.int .i64 x.id, .int .i64 x.job, .int .i64 x.ver, .int .i64 x.group, .int .i64 x.index, .int .i64 x.node, .int .i64 x.epoch, .int .i64 x.ask.cpu, .int .i64 x.ask.mem, .bool x.stop, .int .i64 x.state] x.state W rfl rfl).mono fun e w' ⟨he, hx⟩ => ⟨by rw [he, HV.out], hW.tr hx⟩) ?_
     simp only [Act.put, zD, zE, zF]
     refine calm_val (v := .bool true) (by kernel_rfl) ?_ ?_
     ·intro W hW
      go_simp
     simp only [Act.put, zD, zE, zF]
     refine calm_val (v := .bool true) (by kernel_rfl) ?_ ?_
     ·intro W hW
      go_simp
     simp only [Act.put, zD, zE, zF]
     refine calm_val (v := .int .i64 (ix : Int)) (by kernel_rfl) ?_ ?_
     ·intro W hW
      go_simp
     simp only [Act.put, zD, zE, zF]
     refine calm_val (v := .bool false) (by kernel_rfl) ?_ ?_
     ·intro W hW
      go_simp
     simp only [Act.put, zD, zE, zF]
     refine calm_val (v := .bool false) (by kernel_rfl) ?_ ?_
     ·intro W hW
      go_simp
     simp only [Act.put, zD, zE, zF]
     refine calm_val (v := .pointer (some ⟨bs, 4, none⟩)) (by kernel_rfl) ?_ ?_
     ·intro W hW
      go_simp
     simp only [Act.put, zD, zE, zF]
     refine calm_val (v := .slice (some ⟨d, f, none⟩) s.nN s.cN) (by kernel_rfl) ?_ ?_
     ·intro W hW
      have q4 : W.cell? ⟨bs, 4, none⟩ = some (.slice s.AN s.nN s.cN) := hcs W hW 4
      clear q4
      go_simp
      exact HA.out
     simp only [Act.put, zD, zE, zF]
     refine calm_val (v := .int .i64 (ix : Int)) (by kernel_rfl) ?_ ?_
     ·intro W hW
      go_simp
     simp only [Act.put, zD, zE, zF]
     refine calm_val (v := .pointer (some ⟨d, f + ix * 8, none⟩)) (by kernel_rfl) ?_ ?_
     ·intro W hW
      go_simp
     simp only [Act.put, zD, zE, zF]
     refine calm_val (v := .pointer (some ⟨d, f + ix * 8 + 3, none⟩)) (by kernel_rfl) ?_ ?_
     ·intro W hW
      go_simp
     simp only [Act.put, zD, zE, zF]
     refine calm_val (v := .bool true) (by kernel_rfl) ?_ ?_
     ·intro W hW
      have q5 : W.cell? ⟨d, f + ix * 8 + 3, none⟩ = some (.bool true) := (hx1.tr hW).cell (hce 3 _ rfl) (fun e => e)
      go_simp
     simp only [Act.put, zD, zE, zF]
     refine calm_val (v := .bool false) (by kernel_rfl) ?_ ?_
     ·intro W hW
      go_simp
     simp only [Act.put, zD, zE, zF]
     refine calm_val (v := .bool false) (by kernel_rfl) ?_ ?_
     ·intro W hW
      go_simp
     simp only [Act.put, zD, zE, zF]
     refine calm_val (v := .bool false) (by kernel_rfl) ?_ ?_
     ·intro W hW
      go_simp
     simp only [Act.put, zD, zE, zF]
     refine calm_val (v := .pointer (some ⟨bs, 4, none⟩)) (by kernel_rfl) ?_ ?_
     ·intro W hW
      go_simp
     simp only [Act.put, zD, zE, zF]
     refine calm_val (v := .slice (some ⟨d, f, none⟩) s.nN s.cN) (by kernel_rfl) ?_ ?_
     ·intro W hW
      have q4 : W.cell? ⟨bs, 4, none⟩ = some (.slice s.AN s.nN s.cN) := hcs W hW 4
      clear q4
      go_simp
      exact HA.out
     simp only [Act.put, zD, zE, zF]
     refine calm_val (v := .int .i64 (ix : Int)) (by kernel_rfl) ?_ ?_
     ·intro W hW
      go_simp
     simp only [Act.put, zD, zE, zF]
     refine calm_val (v := .pointer (some ⟨d, f + ix * 8, none⟩)) (by kernel_rfl) ?_ ?_
     ·intro W hW
      go_simp
     simp only [Act.put, zD, zE, zF]
     refine calm_val (v := .pointer (some ⟨d, f + ix * 8 + 6, none⟩)) (by kernel_rfl) ?_ ?_
     ·intro W hW
      go_simp
     simp only [Act.put, zD, zE, zF]
     refine calm_val (v := .int .i64 n5) (by kernel_rfl) ?_ ?_
     ·intro W hW
      have q5 : W.cell? ⟨d, f + ix * 8 + 6, none⟩ = some (.int .i64 n5) := (hx1.tr hW).cell (hce 6 _ rfl) (fun e => e)
      go_simp
     simp only [Act.put, zD, zE, zF]
     refine calm_val (v := .pointer (some ⟨w.heap.size, 6, none⟩)) (by kernel_rfl) ?_ ?_
     ·intro W hW
      go_simp
     simp only [Act.put, zD, zE, zF]
     refine calm_val (v := .int .i64 x.epoch) (by kernel_rfl) ?_ ?_
     ·intro W hW
      have q6 : W.cell? ⟨w.heap.size, 6, none⟩ = some (.int .i64 x.epoch) := hcx W hW 6
      go_simp
     simp only [Act.put, zD, zE, zF]
     refine calm_val (v := .bool true) (by kernel_rfl) ?_ ?_
     ·intro W hW
      go_simp
      simpa using HE.out
     simp only [Act.put, zD, zE, zF]
     refine calm_val (v := .bool true) (by kernel_rfl) ?_ ?_
     ·intro W hW
      go_simp
     simp only [Act.put, zD, zE, zF]
     refine calm_val (v := .bool true) (by kernel_rfl) ?_ ?_
     ·intro W hW
      go_simp
     simp only [Act.put, zD, zE, zF]
     refine calm_val (v := .bool true) (by kernel_rfl) ?_ ?_
     ·intro W hW
      go_simp
     simp only [Act.put, zD, zE, zF]
     refine calm_nil (fun W hW => ?_)
     clear hcs hcx
     go_wp2
     go_ret
     exact ⟨by rw [HB.out]; rfl, (hx0.tr hx1).tr hW⟩
set_option maxHeartbeats 1000000 in
theorem ixFenced (A : Option Addr) (n cap : Nat) (l : List (AllocD)) (w : World) (hl : Sl w 11 A n (l.map AllocD.cells)) (hn : n ≤ 67108864) (bs : Nat) (s : StoreV) (h : s.Ok w) (hb : Blk w bs 30 #[.int .i64 s.index, .int .i64 s.next, .slice s.AJ s.nJ s.cJ, .slice s.AS s.nS s.cS, .slice s.AN s.nN s.cN, .slice s.AA s.nA s.cA, .slice s.AE s.nE s.cE, .slice s.AD s.nD s.cD, .slice s.AX s.nX s.cX]) :
  Calls Tryz.prog 38 #[.slice A n cap, .func (.func 22) #[] #[.pointer (some ⟨bs, 0, none⟩)]] w fun e w' => e = .returned (.int .i64 (idxI (fencedB s.nodes) l)) ∧ Ext Nothing w w' := by
 have hlen := Lib.hid hl.len
 go_enter Tryz.func38, Tryz.ntmps38
 go_wp2
 go_loopw [8] (fun i wr => ∃ j : Nat, j ≤ n ∧ i = .int .i64 j ∧ (∀ i < j, ∀ y, l[i]? = some y → (fencedB s.nodes) y = false) ∧ Ext Nothing w wr) (fun i _ => n - (intOf i).toNat)
 case atStart => exact ⟨0, Nat.zero_le _, rfl, fun j hj => absurd hj (by omega), Ext.refl _ _⟩
 case round =>
  obtain ⟨j, hj, rfl, hno, hxx⟩ := hrel
  by_cases hlt : j < n
  ·obtain ⟨hjn, b, off, rfl, hce⟩ := hl.get hxx hlt
   have hy : l[j]? = some l[j] := List.getElem?_eq_getElem hjn
   generalize l[j] = x at hce hy
   have hm : x ∈ l := List.mem_of_getElem? hy
   cases hp : (fencedB s.nodes) x with
   | true =>
    have hr := Lib.hid (idx_hit (p := fencedB s.nodes) hno hy hp)
    have hp' := Lib.hid hp
    clear hno hy hp
    go_wp2_with (first | (refine wpList_load_at rfl 58 _ rfl STAlloc b (off + j * 11) rfl (AllocD.cells x).toArray (by exact hce) rfl ?_) | (go_at_call 22; refine (isFenced x bs s _ (h.ext0 hxx) (hb.e0 hxx)).mono ?_; rintro e w' ⟨rfl, hx1⟩; rw [hp'.out]))
    go_ret
    exact ⟨by rw [hr.out]; rfl, hxx.tr hx1⟩
   | false =>
    have hno' : ∀ i < j + 1, ∀ y, l[i]? = some y → (fencedB s.nodes) y = false := fun i hi y hy' => by
     by_cases h : i = j
     ·subst h; rw [hy] at hy'; cases hy'; exact hp
     ·exact hno i (by omega) y hy'
    have HN := Lib.hid hno'
    have hp' := Lib.hid hp
    clear hno hno' hy hp
    go_wp2_with (first | (refine wpList_load_at rfl 58 _ rfl STAlloc b (off + j * 11) rfl (AllocD.cells x).toArray (by exact hce) rfl ?_) | (go_at_call 22; refine (isFenced x bs s _ (h.ext0 hxx) (hb.e0 hxx)).mono ?_; rintro e w' ⟨rfl, hx1⟩; rw [hp'.out]))
    go_roundw
    case rel => exact ⟨j + 1, by omega, by go_num, HN.out, hxx.tr hx1⟩
    case measure => simp [intOf]; omega
  ·have hr := Lib.hid (idx_none (p := fencedB s.nodes) (l := l) (fun i hi y hy => hno i (by have := hlen.out; omega) y hy))
   clear hno
   go_wp2
   go_ret
   exact ⟨by rw [hr.out]; rfl, hxx⟩
theorem ctFenced (A : Option Addr) (n cap : Nat) (l : List (AllocD)) (w : World) (hl : Sl w 11 A n (l.map AllocD.cells)) (hn : n ≤ 67108864) (bs : Nat) (s : StoreV) (h : s.Ok w) (hb : Blk w bs 30 #[.int .i64 s.index, .int .i64 s.next, .slice s.AJ s.nJ s.cJ, .slice s.AS s.nS s.cS, .slice s.AN s.nN s.cN, .slice s.AA s.nA s.cA, .slice s.AE s.nE s.cE, .slice s.AD s.nD s.cD, .slice s.AX s.nX s.cX]) :
  Calls Tryz.prog 21 #[.slice A n cap, .func (.func 22) #[] #[.pointer (some ⟨bs, 0, none⟩)]] w fun e w' => e = .returned (.bool (l.any (fencedB s.nodes))) ∧ Ext Nothing w w' := by
 have hi := ixFenced A n cap l w hl hn bs s h hb
 rw [← idx_any (fencedB s.nodes) l]
 generalize idxI (fencedB s.nodes) l = z at hi ⊢
 go_enter Tryz.func21, Tryz.ntmps21
 cases hz : decide (z ≥ 0) with
 | true =>
  have hz' := of_decide_eq_true hz
  go_wp2_with (go_at_call 38; refine hi.mono ?_; rintro e w1 ⟨rfl, hx1⟩)
  go_ret
  exact ⟨rfl, hx1⟩
 | false =>
  have hz' := of_decide_eq_false hz
  go_wp2_with (go_at_call 38; refine hi.mono ?_; rintro e w1 ⟨rfl, hx1⟩)
  go_ret
  exact ⟨rfl, hx1⟩
theorem fenced_any (s : StoreV) (w : World) (h : s.Ok w) : Calls Tryz.prog 9 #[.agg #[.int .i64 s.index, .int .i64 s.next, .slice s.AJ s.nJ s.cJ, .slice s.AS s.nS s.cS, .slice s.AN s.nN s.cN, .slice s.AA s.nA s.cA, .slice s.AE s.nE s.cE, .slice s.AD s.nD s.cD, .slice s.AX s.nX s.cX]] w fun e w' => e = .returned (.bool (!(s.allocs.any (fencedB s.nodes)))) ∧ Ext Nothing w w' := by
 have hx0 : Ext Nothing w (w.alloc (.cells #[.int .i64 s.index, .int .i64 s.next, .slice s.AJ s.nJ s.cJ, .slice s.AS s.nS s.cS, .slice s.AN s.nN s.cN, .slice s.AA s.nA s.cA, .slice s.AE s.nE s.cE, .slice s.AD s.nD s.cD, .slice s.AX s.nX s.cX] 30)) := Ext.auto
 have hb : Blk (w.alloc (.cells #[.int .i64 s.index, .int .i64 s.next, .slice s.AJ s.nJ s.cJ, .slice s.AS s.nS s.cS, .slice s.AN s.nN s.cN, .slice s.AA s.nA s.cA, .slice s.AE s.nE s.cE, .slice s.AD s.nD s.cD, .slice s.AX s.nX s.cX] 30)) w.heap.size 30 #[.int .i64 s.index, .int .i64 s.next, .slice s.AJ s.nJ s.cJ, .slice s.AS s.nS s.cS, .slice s.AN s.nN s.cN, .slice s.AA s.nA s.cA, .slice s.AE s.nE s.cE, .slice s.AD s.nD s.cD, .slice s.AX s.nX s.cX] := Blk.new _ _ _
 have h1 := h.ext0 hx0
 have hm := h.mA
 generalize hz : (s.allocs.any (fencedB s.nodes)) = z
 have HZ := Lib.hid hz
 clear hz
 go_enter Tryz.func9, Tryz.ntmps9
 go_wp2_with (go_at_call 21; refine (ctFenced s.AA s.nA s.cA s.allocs _ h1.sA (by omega) w.heap.size s h1 hb).mono ?_; rintro e w1 ⟨rfl, hx1⟩; rw [HZ.out])
 go_ret
 exact ⟨rfl, hx0.tr hx1⟩
end Go.Proofs.YtlpfcmnnmdhaoaaGreat
