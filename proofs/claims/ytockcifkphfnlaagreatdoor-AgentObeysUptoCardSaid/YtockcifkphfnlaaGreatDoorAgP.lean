/- The laws' helpers: pick, answer. (printed by wip/gen/agans.py) -/
import Derived.Test.YtockcifkphfnlaaGreatDoorAg9
namespace Go.Proofs.YtockcifkphfnlaaGreatDoor
set_option linter.unusedVariables false
set_option linter.unusedSimpArgs false
open Go.RowKit

def pickZ (c n : Int) : Int := (if c < 0 then -(c + 1) else c) % n
theorem pickZ_lt (c : Int) {n : Int} (h : 0 < n) : 0 ≤ pickZ c n ∧ pickZ c n < n := by
  unfold pickZ
  exact ⟨Int.emod_nonneg _ (by omega), Int.emod_lt_of_pos _ h⟩
set_option maxRecDepth 20000 in
theorem lawPick (x n : Int) (w : World) (hx : In64 x) (h0 : 0 < n) (h1 : n ≤ 100) : Calls Tryz.prog 8 #[.int .i64 x, .int .i64 n] w fun e w' => e = .returned (.int .i64 (pickZ x n)) ∧ w' = w := by
  unfold In64 at hx
  have hne : n ≠ 0 := by omega
  go_enter Tryz.func8, Tryz.ntmps8
  by_cases hneg : x < 0
  · have HR := Lib.hid (show pickZ x n = (-(x + 1)) % n by unfold pickZ; rw [if_pos hneg])
    have q1 : IntKind.i64.wrap (x + 1) = x + 1 := by rw [IntKind.wrap_i64]; omega
    have q2 : IntKind.i64.wrap (-(x + 1)) = -(x + 1) := by rw [IntKind.wrap_i64]; omega
    have q0 : 0 ≤ -(x + 1) := by omega
    have q3 : (-(x + 1)).tmod n = (-(x + 1)) % n := Int.tmod_eq_emod_of_nonneg q0
    have q5 := Int.emod_nonneg (-(x + 1)) hne
    have q6 := Int.emod_lt_of_pos (-(x + 1)) h0
    have q4 : IntKind.i64.wrap ((-(x + 1)).tmod n) = (-(x + 1)) % n := by rw [IntKind.wrap_i64, q3]; omega
    have q7 : IntKind.i64.wrap ((-(x + 1)) % n) = (-(x + 1)) % n := by rw [IntKind.wrap_i64]; omega
    clear q5 q6
    go_wp2_with (first | go_skip | go_guarded)
    go_ret
    rw [HR.out]
    exact ⟨by simp [*], rfl⟩
  · have HR := Lib.hid (show pickZ x n = x % n by unfold pickZ; rw [if_neg hneg])
    have q0 : 0 ≤ x := by omega
    have q3 : x.tmod n = x % n := Int.tmod_eq_emod_of_nonneg q0
    have q5 := Int.emod_nonneg x hne
    have q6 := Int.emod_lt_of_pos x h0
    have q4 : IntKind.i64.wrap (x.tmod n) = x % n := by rw [IntKind.wrap_i64, q3]; omega
    have q7 : IntKind.i64.wrap (x % n) = x % n := by rw [IntKind.wrap_i64]; omega
    clear q5 q6
    go_wp2_with (first | go_skip | go_guarded)
    go_ret
    rw [HR.out]
    exact ⟨by simp [*], rfl⟩
theorem arr46 {cs : Array Value} (h : cs.size = 46) : ∃ c0 c1 c2 c3 c4 c5 c6 c7 c8 c9 c10 c11 c12 c13 c14 c15 c16 c17 c18 c19 c20 c21 c22 c23 c24 c25 c26 c27 c28 c29 c30 c31 c32 c33 c34 c35 c36 c37 c38 c39 c40 c41 c42 c43 c44 c45, cs = #[c0, c1, c2, c3, c4, c5, c6, c7, c8, c9, c10, c11, c12, c13, c14, c15, c16, c17, c18, c19, c20, c21, c22, c23, c24, c25, c26, c27, c28, c29, c30, c31, c32, c33, c34, c35, c36, c37, c38, c39, c40, c41, c42, c43, c44, c45] := by
  obtain ⟨l⟩ := cs
  match l, h with
  | c0 :: c1 :: c2 :: c3 :: c4 :: c5 :: c6 :: c7 :: c8 :: c9 :: c10 :: c11 :: c12 :: c13 :: c14 :: c15 :: c16 :: c17 :: c18 :: c19 :: c20 :: c21 :: c22 :: c23 :: c24 :: c25 :: c26 :: c27 :: c28 :: c29 :: c30 :: c31 :: c32 :: c33 :: c34 :: c35 :: c36 :: c37 :: c38 :: c39 :: c40 :: c41 :: c42 :: c43 :: c44 :: c45 :: [], _ => exact ⟨c0, c1, c2, c3, c4, c5, c6, c7, c8, c9, c10, c11, c12, c13, c14, c15, c16, c17, c18, c19, c20, c21, c22, c23, c24, c25, c26, c27, c28, c29, c30, c31, c32, c33, c34, c35, c36, c37, c38, c39, c40, c41, c42, c43, c44, c45, rfl⟩
theorem STDeed17 : StructT Tryz.prog 53 52 := .of (by kernel_rfl)
theorem STCmdG : StructT Tryz.prog 47 27 := .of (by kernel_rfl)
/-- a deed's cells, as far as answers need them -/
structure AnsIs (xs : Array Value) (nn code val : Int) (al : Value) : Prop where
  size : xs.size = 52
  n : xs[1]? = some (.int .i64 nn)
  code : xs[3]? = some (.int .i64 code)
  val : xs[4]? = some (.int .i64 val)
  al : xs[5]? = some al
set_option maxRecDepth 20000 in
set_option maxHeartbeats 16000000 in
theorem lawAnswer (cs xs : Array Value) (m : Ag.MsgD) (nn code val : Int) (A : Option Addr) (n c : Nat) (w : World) (hm : MsgIs cs m) (hx : AnsIs xs nn code val (.slice A n c)) :
    Calls Tryz.prog 12 #[.agg cs, .agg xs] w fun e w' => ∃ cs', e = .returned (.agg cs') ∧ MsgIs cs' ⟨10, m.dest, m.frm, m.ctx, nn, m.op, m.boot, m.epoch, code, val⟩ ∧ cs'[45]? = some (.slice A n c) ∧ Ext Nothing w w' := by
  obtain ⟨x1, x2, x3, x4, x5, x6, x7, x8, x9, x10, x11, x12⟩ := hm
  obtain ⟨y1, y2, y3, y4, y5⟩ := hx
  obtain ⟨c0, c1, c2, c3, c4, c5, c6, c7, c8, c9, c10, c11, c12, c13, c14, c15, c16, c17, c18, c19, c20, c21, c22, c23, c24, c25, c26, c27, c28, c29, c30, c31, c32, c33, c34, c35, c36, c37, c38, c39, c40, c41, c42, c43, c44, c45, rfl⟩ := arr46 x1
  have H1 := Lib.hid x2
  obtain rfl : c1 = .int .i64 m.frm := by simpa using x4
  obtain rfl : c2 = .int .i64 m.dest := by simpa using x5
  obtain rfl : c8 = .int .i64 m.ctx := by simpa using x6
  have HOP := Lib.hid (show c16 = .int .i64 m.op ∧ c31 = .int .i64 m.boot ∧ c32 = .int .i64 m.epoch by exact ⟨by simpa using x8, by simpa using x9, by simpa using x10⟩)
  clear x1 x2 x3 x4 x5 x6 x7 x8 x9 x10 x11 x12
  obtain ⟨mm1, hmm1⟩ : ∃ z : Int, z = m.frm := ⟨_, rfl⟩
  obtain ⟨mm2, hmm2⟩ : ∃ z : Int, z = m.dest := ⟨_, rfl⟩
  obtain ⟨mm8, hmm8⟩ : ∃ z : Int, z = m.ctx := ⟨_, rfl⟩
  rw [← hmm1, ← hmm2, ← hmm8]
  rw [← hmm1, ← hmm2, ← hmm8] at H1
  have HMM := Lib.hid (show mm1 = m.frm ∧ mm2 = m.dest ∧ mm8 = m.ctx from ⟨hmm1, hmm2, hmm8⟩)
  clear hmm1 hmm2 hmm8
  go_enter Tryz.func12, Tryz.ntmps12
  go_upto_region 1 with (first | go_skip | go_guarded | ((with_reducible refine isAl 51 rfl ?_); refine wpList_alloc_any rfl _ rfl ZTMsg ?_; intro z hz9))
  have hx0 : Ext Nothing w (((w.alloc (.cells #[c0, .int .i64 mm1, .int .i64 mm2, c3, c4, c5, c6, c7, .int .i64 mm8, c9, c10, c11, c12, c13, c14, c15, c16, c17, c18, c19, c20, c21, c22, c23, c24, c25, c26, c27, c28, c29, c30, c31, c32, c33, c34, c35, c36, c37, c38, c39, c40, c41, c42, c43, c44, c45] 51)).alloc (.cells xs 53)).alloc (.cells z 51)) := Ext.auto
  have e1 : ((w.alloc (.cells #[c0, .int .i64 mm1, .int .i64 mm2, c3, c4, c5, c6, c7, .int .i64 mm8, c9, c10, c11, c12, c13, c14, c15, c16, c17, c18, c19, c20, c21, c22, c23, c24, c25, c26, c27, c28, c29, c30, c31, c32, c33, c34, c35, c36, c37, c38, c39, c40, c41, c42, c43, c44, c45] 51))).heap.size = w.heap.size + 1 := by simp
  have e2 : ((w.alloc (.cells #[c0, .int .i64 mm1, .int .i64 mm2, c3, c4, c5, c6, c7, .int .i64 mm8, c9, c10, c11, c12, c13, c14, c15, c16, c17, c18, c19, c20, c21, c22, c23, c24, c25, c26, c27, c28, c29, c30, c31, c32, c33, c34, c35, c36, c37, c38, c39, c40, c41, c42, c43, c44, c45] 51)).alloc (.cells xs 53)).heap.size = w.heap.size + 1 + 1 := by simp
  have hB0 : Blk (((w.alloc (.cells #[c0, .int .i64 mm1, .int .i64 mm2, c3, c4, c5, c6, c7, .int .i64 mm8, c9, c10, c11, c12, c13, c14, c15, c16, c17, c18, c19, c20, c21, c22, c23, c24, c25, c26, c27, c28, c29, c30, c31, c32, c33, c34, c35, c36, c37, c38, c39, c40, c41, c42, c43, c44, c45] 51)).alloc (.cells xs 53)).alloc (.cells z 51)) w.heap.size 51 #[c0, .int .i64 mm1, .int .i64 mm2, c3, c4, c5, c6, c7, .int .i64 mm8, c9, c10, c11, c12, c13, c14, c15, c16, c17, c18, c19, c20, c21, c22, c23, c24, c25, c26, c27, c28, c29, c30, c31, c32, c33, c34, c35, c36, c37, c38, c39, c40, c41, c42, c43, c44, c45] := (Blk.new w _ _).e0 (show Ext Nothing _ (((w.alloc (.cells #[c0, .int .i64 mm1, .int .i64 mm2, c3, c4, c5, c6, c7, .int .i64 mm8, c9, c10, c11, c12, c13, c14, c15, c16, c17, c18, c19, c20, c21, c22, c23, c24, c25, c26, c27, c28, c29, c30, c31, c32, c33, c34, c35, c36, c37, c38, c39, c40, c41, c42, c43, c44, c45] 51)).alloc (.cells xs 53)).alloc (.cells z 51)) from Ext.auto)
  have hD0 : Blk (((w.alloc (.cells #[c0, .int .i64 mm1, .int .i64 mm2, c3, c4, c5, c6, c7, .int .i64 mm8, c9, c10, c11, c12, c13, c14, c15, c16, c17, c18, c19, c20, c21, c22, c23, c24, c25, c26, c27, c28, c29, c30, c31, c32, c33, c34, c35, c36, c37, c38, c39, c40, c41, c42, c43, c44, c45] 51)).alloc (.cells xs 53)).alloc (.cells z 51)) (w.heap.size + 1) 53 xs := by have h9 := (Blk.new (w.alloc (.cells #[c0, .int .i64 mm1, .int .i64 mm2, c3, c4, c5, c6, c7, .int .i64 mm8, c9, c10, c11, c12, c13, c14, c15, c16, c17, c18, c19, c20, c21, c22, c23, c24, c25, c26, c27, c28, c29, c30, c31, c32, c33, c34, c35, c36, c37, c38, c39, c40, c41, c42, c43, c44, c45] 51)) 53 xs).e0 (show Ext Nothing _ (((w.alloc (.cells #[c0, .int .i64 mm1, .int .i64 mm2, c3, c4, c5, c6, c7, .int .i64 mm8, c9, c10, c11, c12, c13, c14, c15, c16, c17, c18, c19, c20, c21, c22, c23, c24, c25, c26, c27, c28, c29, c30, c31, c32, c33, c34, c35, c36, c37, c38, c39, c40, c41, c42, c43, c44, c45] 51)).alloc (.cells xs 53)).alloc (.cells z 51)) from Ext.auto); rw [e1] at h9; exact h9
  have hR0 : Blk (((w.alloc (.cells #[c0, .int .i64 mm1, .int .i64 mm2, c3, c4, c5, c6, c7, .int .i64 mm8, c9, c10, c11, c12, c13, c14, c15, c16, c17, c18, c19, c20, c21, c22, c23, c24, c25, c26, c27, c28, c29, c30, c31, c32, c33, c34, c35, c36, c37, c38, c39, c40, c41, c42, c43, c44, c45] 51)).alloc (.cells xs 53)).alloc (.cells z 51)) (w.heap.size + 1 + 1) 51 z := by have h9 := Blk.new ((w.alloc (.cells #[c0, .int .i64 mm1, .int .i64 mm2, c3, c4, c5, c6, c7, .int .i64 mm8, c9, c10, c11, c12, c13, c14, c15, c16, c17, c18, c19, c20, c21, c22, c23, c24, c25, c26, c27, c28, c29, c30, c31, c32, c33, c34, c35, c36, c37, c38, c39, c40, c41, c42, c43, c44, c45] 51)).alloc (.cells xs 53)) 51 z; rw [e2] at h9; exact h9
  (try rw [e2])
  (try rw [e1])
  generalize hP : w.heap.size = P at hB0 hD0 hR0 ⊢
  have HP := Lib.hid hP
  clear e1 e2 hP
  generalize (((w.alloc (.cells #[c0, .int .i64 mm1, .int .i64 mm2, c3, c4, c5, c6, c7, .int .i64 mm8, c9, c10, c11, c12, c13, c14, c15, c16, c17, c18, c19, c20, c21, c22, c23, c24, c25, c26, c27, c28, c29, c30, c31, c32, c33, c34, c35, c36, c37, c38, c39, c40, c41, c42, c43, c44, c45] 51)).alloc (.cells xs 53)).alloc (.cells z 51)) = w1 at hx0 hB0 hD0 hR0 ⊢
  have hcC : ∀ j u, (#[c16, c17, c18, c19, c20, c21, c22, c23, c24, c25, c26, c27, c28, c29, c30, c31, c32, c33, c34, c35, c36, c37, c38, c39, c40, c41, c42] : Array Value).toList[j]? = some u → w1.cell? ⟨P, 16 + j, none⟩ = some u := fun j u hu => by
    rw [hB0.cell]
    have h9 : ((#[c0, .int .i64 mm1, .int .i64 mm2, c3, c4, c5, c6, c7, .int .i64 mm8, c9, c10, c11, c12, c13, c14, c15, c16, c17, c18, c19, c20, c21, c22, c23, c24, c25, c26, c27, c28, c29, c30, c31, c32, c33, c34, c35, c36, c37, c38, c39, c40, c41, c42, c43, c44, c45] : Array Value).toList.drop 16).take 27 = (#[c16, c17, c18, c19, c20, c21, c22, c23, c24, c25, c26, c27, c28, c29, c30, c31, c32, c33, c34, c35, c36, c37, c38, c39, c40, c41, c42] : Array Value).toList := rfl
    rw [← h9, List.getElem?_take] at hu
    split at hu
    · rw [List.getElem?_drop] at hu
      rw [← Array.getElem?_toList]
      exact hu
    · cases hu
  have b1 : w1.cell? ⟨P, 1, none⟩ = some (.int .i64 mm1) := hB0.cell 1
  have b2 : w1.cell? ⟨P, 2, none⟩ = some (.int .i64 mm2) := hB0.cell 2
  have b8 : w1.cell? ⟨P, 8, none⟩ = some (.int .i64 mm8) := hB0.cell 8
  have d1 : w1.cell? ⟨P + 1, 1, none⟩ = some (.int .i64 nn) := (hD0.cell 1).trans y2
  have d3 : w1.cell? ⟨P + 1, 3, none⟩ = some (.int .i64 code) := (hD0.cell 3).trans y3
  have d4 : w1.cell? ⟨P + 1, 4, none⟩ = some (.int .i64 val) := (hD0.cell 4).trans y4
  have d5 : w1.cell? ⟨P + 1, 5, none⟩ = some (.slice A n c) := (hD0.cell 5).trans y5
  go_upto_region 2 with (first | go_skip | go_guarded | ((with_reducible refine isLd 47 rfl ?_); refine wpList_load_at rfl 47 _ rfl STCmdG P 16 rfl #[c16, c17, c18, c19, c20, c21, c22, c23, c24, c25, c26, c27, c28, c29, c30, c31, c32, c33, c34, c35, c36, c37, c38, c39, c40, c41, c42] hcC rfl ?_) | ((with_reducible refine isBd 51 rfl ?_); refine wpList_build rfl _ _ rfl #[.int .i64 10, .int .i64 mm2, .int .i64 mm1, .int .i64 0, .int .i64 0, .int .i64 0, .int .i64 0, .bool false, .int .i64 mm8, .int .i64 0, .int .i64 0, .int .i64 nn, .slice none 0 0, .slice none 0 0, .slice none 0 0, .slice none 0 0, c16, c17, c18, c19, c20, c21, c22, c23, c24, c25, c26, c27, c28, c29, c30, c31, c32, c33, c34, c35, c36, c37, c38, c39, c40, c41, c42, .int .i64 0, .int .i64 0, .slice none 0 0] (by kernel_rfl) ?_) | ((with_reducible refine isAl 51 rfl ?_); refine wpList_alloc_any rfl _ rfl ZTMsg ?_; intro z2 hz2) | ((with_reducible refine isSt 51 rfl ?_); refine wpList_store_new rfl _ _ _ rfl STMsg z2 hz2 rfl rfl #[.int .i64 10, .int .i64 mm2, .int .i64 mm1, .int .i64 0, .int .i64 0, .int .i64 0, .int .i64 0, .bool false, .int .i64 mm8, .int .i64 0, .int .i64 0, .int .i64 nn, .slice none 0 0, .slice none 0 0, .slice none 0 0, .slice none 0 0, c16, c17, c18, c19, c20, c21, c22, c23, c24, c25, c26, c27, c28, c29, c30, c31, c32, c33, c34, c35, c36, c37, c38, c39, c40, c41, c42, .int .i64 0, .int .i64 0, .slice none 0 0] rfl rfl (by have h9 := H1.out; simp only [List.all_cons, List.all_nil, Bool.and_eq_true] at h9 ⊢; refine ⟨rfl, rfl, rfl, rfl, rfl, rfl, rfl, rfl, rfl, rfl, rfl, rfl, rfl, rfl, rfl, rfl, h9.2.2.2.2.2.2.2.2.2.2.2.2.2.2.2.2.1, h9.2.2.2.2.2.2.2.2.2.2.2.2.2.2.2.2.2.1, h9.2.2.2.2.2.2.2.2.2.2.2.2.2.2.2.2.2.2.1, h9.2.2.2.2.2.2.2.2.2.2.2.2.2.2.2.2.2.2.2.1, h9.2.2.2.2.2.2.2.2.2.2.2.2.2.2.2.2.2.2.2.2.1, h9.2.2.2.2.2.2.2.2.2.2.2.2.2.2.2.2.2.2.2.2.2.1, h9.2.2.2.2.2.2.2.2.2.2.2.2.2.2.2.2.2.2.2.2.2.2.1, h9.2.2.2.2.2.2.2.2.2.2.2.2.2.2.2.2.2.2.2.2.2.2.2.1, h9.2.2.2.2.2.2.2.2.2.2.2.2.2.2.2.2.2.2.2.2.2.2.2.2.1, h9.2.2.2.2.2.2.2.2.2.2.2.2.2.2.2.2.2.2.2.2.2.2.2.2.2.1, h9.2.2.2.2.2.2.2.2.2.2.2.2.2.2.2.2.2.2.2.2.2.2.2.2.2.2.1, h9.2.2.2.2.2.2.2.2.2.2.2.2.2.2.2.2.2.2.2.2.2.2.2.2.2.2.2.1, h9.2.2.2.2.2.2.2.2.2.2.2.2.2.2.2.2.2.2.2.2.2.2.2.2.2.2.2.2.1, h9.2.2.2.2.2.2.2.2.2.2.2.2.2.2.2.2.2.2.2.2.2.2.2.2.2.2.2.2.2.1, h9.2.2.2.2.2.2.2.2.2.2.2.2.2.2.2.2.2.2.2.2.2.2.2.2.2.2.2.2.2.2.1, h9.2.2.2.2.2.2.2.2.2.2.2.2.2.2.2.2.2.2.2.2.2.2.2.2.2.2.2.2.2.2.2.1, h9.2.2.2.2.2.2.2.2.2.2.2.2.2.2.2.2.2.2.2.2.2.2.2.2.2.2.2.2.2.2.2.2.1, h9.2.2.2.2.2.2.2.2.2.2.2.2.2.2.2.2.2.2.2.2.2.2.2.2.2.2.2.2.2.2.2.2.2.1, h9.2.2.2.2.2.2.2.2.2.2.2.2.2.2.2.2.2.2.2.2.2.2.2.2.2.2.2.2.2.2.2.2.2.2.1, h9.2.2.2.2.2.2.2.2.2.2.2.2.2.2.2.2.2.2.2.2.2.2.2.2.2.2.2.2.2.2.2.2.2.2.2.1, h9.2.2.2.2.2.2.2.2.2.2.2.2.2.2.2.2.2.2.2.2.2.2.2.2.2.2.2.2.2.2.2.2.2.2.2.2.1, h9.2.2.2.2.2.2.2.2.2.2.2.2.2.2.2.2.2.2.2.2.2.2.2.2.2.2.2.2.2.2.2.2.2.2.2.2.2.1, h9.2.2.2.2.2.2.2.2.2.2.2.2.2.2.2.2.2.2.2.2.2.2.2.2.2.2.2.2.2.2.2.2.2.2.2.2.2.2.1, h9.2.2.2.2.2.2.2.2.2.2.2.2.2.2.2.2.2.2.2.2.2.2.2.2.2.2.2.2.2.2.2.2.2.2.2.2.2.2.2.1, h9.2.2.2.2.2.2.2.2.2.2.2.2.2.2.2.2.2.2.2.2.2.2.2.2.2.2.2.2.2.2.2.2.2.2.2.2.2.2.2.2.1, h9.2.2.2.2.2.2.2.2.2.2.2.2.2.2.2.2.2.2.2.2.2.2.2.2.2.2.2.2.2.2.2.2.2.2.2.2.2.2.2.2.2.1, h9.2.2.2.2.2.2.2.2.2.2.2.2.2.2.2.2.2.2.2.2.2.2.2.2.2.2.2.2.2.2.2.2.2.2.2.2.2.2.2.2.2.2.1, rfl, rfl, rfl, trivial⟩) ?_; clear hz2))
  have hx1 : Ext Nothing w1 (w1.alloc (.cells #[.int .i64 10, .int .i64 mm2, .int .i64 mm1, .int .i64 0, .int .i64 0, .int .i64 0, .int .i64 0, .bool false, .int .i64 mm8, .int .i64 0, .int .i64 0, .int .i64 nn, .slice none 0 0, .slice none 0 0, .slice none 0 0, .slice none 0 0, c16, c17, c18, c19, c20, c21, c22, c23, c24, c25, c26, c27, c28, c29, c30, c31, c32, c33, c34, c35, c36, c37, c38, c39, c40, c41, c42, .int .i64 0, .int .i64 0, .slice none 0 0] 51)) := Ext.auto
  have hO1 := Blk.new w1 51 #[.int .i64 10, .int .i64 mm2, .int .i64 mm1, .int .i64 0, .int .i64 0, .int .i64 0, .int .i64 0, .bool false, .int .i64 mm8, .int .i64 0, .int .i64 0, .int .i64 nn, .slice none 0 0, .slice none 0 0, .slice none 0 0, .slice none 0 0, c16, c17, c18, c19, c20, c21, c22, c23, c24, c25, c26, c27, c28, c29, c30, c31, c32, c33, c34, c35, c36, c37, c38, c39, c40, c41, c42, .int .i64 0, .int .i64 0, .slice none 0 0]
  generalize hQ : w1.heap.size = Q at hO1 ⊢
  have hQP : Q ≠ P + 1 + 1 := fun e => by have h9 := hR0.lt; omega
  have HQ := Lib.hid hQ
  have e3 : w1.cell? ⟨P + 1, 3, none⟩ = some (.int .i64 code) := d3
  have hR1 := hR0.e0 hx1
  have hd3 := hx1.cell d3 (fun e => e)
  have hd4 := hx1.cell d4 (fun e => e)
  have hd5 := hx1.cell d5 (fun e => e)
  have hxa := hx0.tr hx1
  have hzb := hx0.size
  clear hQ hcC b1 b2 b8 d1 d3 d4 d5 e3 hB0 hD0 hR0 hx1 hx0
  generalize (w1.alloc (.cells #[.int .i64 10, .int .i64 mm2, .int .i64 mm1, .int .i64 0, .int .i64 0, .int .i64 0, .int .i64 0, .bool false, .int .i64 mm8, .int .i64 0, .int .i64 0, .int .i64 nn, .slice none 0 0, .slice none 0 0, .slice none 0 0, .slice none 0 0, c16, c17, c18, c19, c20, c21, c22, c23, c24, c25, c26, c27, c28, c29, c30, c31, c32, c33, c34, c35, c36, c37, c38, c39, c40, c41, c42, .int .i64 0, .int .i64 0, .slice none 0 0] 51)) = w2 at hO1 hR1 hd3 hd4 hd5 hxa ⊢
  go_wp2_with (first | go_skip | go_guarded | ((with_reducible refine isBd 49 rfl ?_); refine wpList_build rfl _ _ rfl #[.int .i64 code, .int .i64 val, .slice A n c] (by kernel_rfl) ?_) | ((with_reducible refine isSt 49 rfl ?_); refine wpList_store_sized rfl 49 _ _ rfl (by kernel_rfl) Q 43 rfl #[.int .i64 code, .int .i64 val, .slice A n c] rfl hO1 (show 43 + 3 ≤ 46 by decide) rfl rfl ?_; intro w3 hO3 hx3; have hO3 : Blk w3 Q 51 #[.int .i64 10, .int .i64 mm2, .int .i64 mm1, .int .i64 0, .int .i64 0, .int .i64 0, .int .i64 0, .bool false, .int .i64 mm8, .int .i64 0, .int .i64 0, .int .i64 nn, .slice none 0 0, .slice none 0 0, .slice none 0 0, .slice none 0 0, c16, c17, c18, c19, c20, c21, c22, c23, c24, c25, c26, c27, c28, c29, c30, c31, c32, c33, c34, c35, c36, c37, c38, c39, c40, c41, c42, .int .i64 code, .int .i64 val, .slice A n c] := hO3; have hR3 := hR1.ext hx3 (fun e => hQP e.symm)) | ((with_reducible refine isLd 51 rfl ?_); refine wpList_load_blk rfl 51 _ rfl STMsg Q rfl #[.int .i64 10, .int .i64 mm2, .int .i64 mm1, .int .i64 0, .int .i64 0, .int .i64 0, .int .i64 0, .bool false, .int .i64 mm8, .int .i64 0, .int .i64 0, .int .i64 nn, .slice none 0 0, .slice none 0 0, .slice none 0 0, .slice none 0 0, c16, c17, c18, c19, c20, c21, c22, c23, c24, c25, c26, c27, c28, c29, c30, c31, c32, c33, c34, c35, c36, c37, c38, c39, c40, c41, c42, .int .i64 code, .int .i64 val, .slice A n c] hO3 rfl ?_) | ((with_reducible refine isSt 51 rfl ?_); refine wpList_store_blk rfl 51 _ _ rfl STMsg (P + 1 + 1) rfl #[.int .i64 10, .int .i64 mm2, .int .i64 mm1, .int .i64 0, .int .i64 0, .int .i64 0, .int .i64 0, .bool false, .int .i64 mm8, .int .i64 0, .int .i64 0, .int .i64 nn, .slice none 0 0, .slice none 0 0, .slice none 0 0, .slice none 0 0, c16, c17, c18, c19, c20, c21, c22, c23, c24, c25, c26, c27, c28, c29, c30, c31, c32, c33, c34, c35, c36, c37, c38, c39, c40, c41, c42, .int .i64 code, .int .i64 val, .slice A n c] rfl hR3 hz9 rfl (by have h9 := H1.out; simp only [List.all_cons, List.all_nil, Bool.and_eq_true] at h9 ⊢; refine ⟨rfl, rfl, rfl, rfl, rfl, rfl, rfl, rfl, rfl, rfl, rfl, rfl, rfl, rfl, rfl, rfl, h9.2.2.2.2.2.2.2.2.2.2.2.2.2.2.2.2.1, h9.2.2.2.2.2.2.2.2.2.2.2.2.2.2.2.2.2.1, h9.2.2.2.2.2.2.2.2.2.2.2.2.2.2.2.2.2.2.1, h9.2.2.2.2.2.2.2.2.2.2.2.2.2.2.2.2.2.2.2.1, h9.2.2.2.2.2.2.2.2.2.2.2.2.2.2.2.2.2.2.2.2.1, h9.2.2.2.2.2.2.2.2.2.2.2.2.2.2.2.2.2.2.2.2.2.1, h9.2.2.2.2.2.2.2.2.2.2.2.2.2.2.2.2.2.2.2.2.2.2.1, h9.2.2.2.2.2.2.2.2.2.2.2.2.2.2.2.2.2.2.2.2.2.2.2.1, h9.2.2.2.2.2.2.2.2.2.2.2.2.2.2.2.2.2.2.2.2.2.2.2.2.1, h9.2.2.2.2.2.2.2.2.2.2.2.2.2.2.2.2.2.2.2.2.2.2.2.2.2.1, h9.2.2.2.2.2.2.2.2.2.2.2.2.2.2.2.2.2.2.2.2.2.2.2.2.2.2.1, h9.2.2.2.2.2.2.2.2.2.2.2.2.2.2.2.2.2.2.2.2.2.2.2.2.2.2.2.1, h9.2.2.2.2.2.2.2.2.2.2.2.2.2.2.2.2.2.2.2.2.2.2.2.2.2.2.2.2.1, h9.2.2.2.2.2.2.2.2.2.2.2.2.2.2.2.2.2.2.2.2.2.2.2.2.2.2.2.2.2.1, h9.2.2.2.2.2.2.2.2.2.2.2.2.2.2.2.2.2.2.2.2.2.2.2.2.2.2.2.2.2.2.1, h9.2.2.2.2.2.2.2.2.2.2.2.2.2.2.2.2.2.2.2.2.2.2.2.2.2.2.2.2.2.2.2.1, h9.2.2.2.2.2.2.2.2.2.2.2.2.2.2.2.2.2.2.2.2.2.2.2.2.2.2.2.2.2.2.2.2.1, h9.2.2.2.2.2.2.2.2.2.2.2.2.2.2.2.2.2.2.2.2.2.2.2.2.2.2.2.2.2.2.2.2.2.1, h9.2.2.2.2.2.2.2.2.2.2.2.2.2.2.2.2.2.2.2.2.2.2.2.2.2.2.2.2.2.2.2.2.2.2.1, h9.2.2.2.2.2.2.2.2.2.2.2.2.2.2.2.2.2.2.2.2.2.2.2.2.2.2.2.2.2.2.2.2.2.2.2.1, h9.2.2.2.2.2.2.2.2.2.2.2.2.2.2.2.2.2.2.2.2.2.2.2.2.2.2.2.2.2.2.2.2.2.2.2.2.1, h9.2.2.2.2.2.2.2.2.2.2.2.2.2.2.2.2.2.2.2.2.2.2.2.2.2.2.2.2.2.2.2.2.2.2.2.2.2.1, h9.2.2.2.2.2.2.2.2.2.2.2.2.2.2.2.2.2.2.2.2.2.2.2.2.2.2.2.2.2.2.2.2.2.2.2.2.2.2.1, h9.2.2.2.2.2.2.2.2.2.2.2.2.2.2.2.2.2.2.2.2.2.2.2.2.2.2.2.2.2.2.2.2.2.2.2.2.2.2.2.1, h9.2.2.2.2.2.2.2.2.2.2.2.2.2.2.2.2.2.2.2.2.2.2.2.2.2.2.2.2.2.2.2.2.2.2.2.2.2.2.2.2.1, h9.2.2.2.2.2.2.2.2.2.2.2.2.2.2.2.2.2.2.2.2.2.2.2.2.2.2.2.2.2.2.2.2.2.2.2.2.2.2.2.2.2.1, h9.2.2.2.2.2.2.2.2.2.2.2.2.2.2.2.2.2.2.2.2.2.2.2.2.2.2.2.2.2.2.2.2.2.2.2.2.2.2.2.2.2.2.1, rfl, rfl, rfl, trivial⟩) ?_; intro w4 hR4 hx4))
  refine bodyPost_ret (results_cell rfl STMsg (g := P + 1 + 1) rfl hR4 rfl) rfl ?_
  have HONE := Lib.hid (show (#[.int .i64 10, .int .i64 mm2, .int .i64 mm1, .int .i64 0, .int .i64 0, .int .i64 0, .int .i64 0, .bool false, .int .i64 mm8, .int .i64 0, .int .i64 0, .int .i64 nn, .slice none 0 0, .slice none 0 0, .slice none 0 0, .slice none 0 0, c16, c17, c18, c19, c20, c21, c22, c23, c24, c25, c26, c27, c28, c29, c30, c31, c32, c33, c34, c35, c36, c37, c38, c39, c40, c41, c42, .int .i64 code, .int .i64 val, .slice A n c] : Array Value).toList.all Value.oneCell' = true from (by have h9 := H1.out; simp only [List.all_cons, List.all_nil, Bool.and_eq_true] at h9 ⊢; refine ⟨rfl, rfl, rfl, rfl, rfl, rfl, rfl, rfl, rfl, rfl, rfl, rfl, rfl, rfl, rfl, rfl, h9.2.2.2.2.2.2.2.2.2.2.2.2.2.2.2.2.1, h9.2.2.2.2.2.2.2.2.2.2.2.2.2.2.2.2.2.1, h9.2.2.2.2.2.2.2.2.2.2.2.2.2.2.2.2.2.2.1, h9.2.2.2.2.2.2.2.2.2.2.2.2.2.2.2.2.2.2.2.1, h9.2.2.2.2.2.2.2.2.2.2.2.2.2.2.2.2.2.2.2.2.1, h9.2.2.2.2.2.2.2.2.2.2.2.2.2.2.2.2.2.2.2.2.2.1, h9.2.2.2.2.2.2.2.2.2.2.2.2.2.2.2.2.2.2.2.2.2.2.1, h9.2.2.2.2.2.2.2.2.2.2.2.2.2.2.2.2.2.2.2.2.2.2.2.1, h9.2.2.2.2.2.2.2.2.2.2.2.2.2.2.2.2.2.2.2.2.2.2.2.2.1, h9.2.2.2.2.2.2.2.2.2.2.2.2.2.2.2.2.2.2.2.2.2.2.2.2.2.1, h9.2.2.2.2.2.2.2.2.2.2.2.2.2.2.2.2.2.2.2.2.2.2.2.2.2.2.1, h9.2.2.2.2.2.2.2.2.2.2.2.2.2.2.2.2.2.2.2.2.2.2.2.2.2.2.2.1, h9.2.2.2.2.2.2.2.2.2.2.2.2.2.2.2.2.2.2.2.2.2.2.2.2.2.2.2.2.1, h9.2.2.2.2.2.2.2.2.2.2.2.2.2.2.2.2.2.2.2.2.2.2.2.2.2.2.2.2.2.1, h9.2.2.2.2.2.2.2.2.2.2.2.2.2.2.2.2.2.2.2.2.2.2.2.2.2.2.2.2.2.2.1, h9.2.2.2.2.2.2.2.2.2.2.2.2.2.2.2.2.2.2.2.2.2.2.2.2.2.2.2.2.2.2.2.1, h9.2.2.2.2.2.2.2.2.2.2.2.2.2.2.2.2.2.2.2.2.2.2.2.2.2.2.2.2.2.2.2.2.1, h9.2.2.2.2.2.2.2.2.2.2.2.2.2.2.2.2.2.2.2.2.2.2.2.2.2.2.2.2.2.2.2.2.2.1, h9.2.2.2.2.2.2.2.2.2.2.2.2.2.2.2.2.2.2.2.2.2.2.2.2.2.2.2.2.2.2.2.2.2.2.1, h9.2.2.2.2.2.2.2.2.2.2.2.2.2.2.2.2.2.2.2.2.2.2.2.2.2.2.2.2.2.2.2.2.2.2.2.1, h9.2.2.2.2.2.2.2.2.2.2.2.2.2.2.2.2.2.2.2.2.2.2.2.2.2.2.2.2.2.2.2.2.2.2.2.2.1, h9.2.2.2.2.2.2.2.2.2.2.2.2.2.2.2.2.2.2.2.2.2.2.2.2.2.2.2.2.2.2.2.2.2.2.2.2.2.1, h9.2.2.2.2.2.2.2.2.2.2.2.2.2.2.2.2.2.2.2.2.2.2.2.2.2.2.2.2.2.2.2.2.2.2.2.2.2.2.1, h9.2.2.2.2.2.2.2.2.2.2.2.2.2.2.2.2.2.2.2.2.2.2.2.2.2.2.2.2.2.2.2.2.2.2.2.2.2.2.2.1, h9.2.2.2.2.2.2.2.2.2.2.2.2.2.2.2.2.2.2.2.2.2.2.2.2.2.2.2.2.2.2.2.2.2.2.2.2.2.2.2.2.1, h9.2.2.2.2.2.2.2.2.2.2.2.2.2.2.2.2.2.2.2.2.2.2.2.2.2.2.2.2.2.2.2.2.2.2.2.2.2.2.2.2.2.1, h9.2.2.2.2.2.2.2.2.2.2.2.2.2.2.2.2.2.2.2.2.2.2.2.2.2.2.2.2.2.2.2.2.2.2.2.2.2.2.2.2.2.2.1, rfl, rfl, rfl, trivial⟩))
  have hop := HOP.out
  have hmm := HMM.out
  obtain ⟨o1, o2, o3⟩ := hop
  obtain ⟨o4, o5, o6⟩ := hmm
  subst o1 o2 o3 o4 o5 o6
  refine ⟨_, rfl, ⟨rfl, HONE.out, rfl, rfl, rfl, rfl, rfl, rfl, rfl, rfl, rfl, rfl⟩, rfl, ?_⟩
  have hP := HP.out
  have hQ := HQ.out
  refine (hxa.trans hx3 (fun q hq e => ?_)).trans hx4 (fun q hq e => ?_)
  · have e : q = Q := e
    omega
  · have e : q = P + 1 + 1 := e
    omega
end Go.Proofs.YtockcifkphfnlaaGreatDoor
