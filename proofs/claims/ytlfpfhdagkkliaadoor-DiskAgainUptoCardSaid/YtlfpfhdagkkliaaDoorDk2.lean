/- bytes.Clone, slices.Grow and Concat at bytes. -/
import Derived.Test.YtlfpfhdagkkliaaDoorDk1
import Derived.Test.YtlfpfhdagkkliaaDoorOpL
import Derived.Lib.AppendZerosOnto
import Derived.Lib.SliceRun
namespace Go.Proofs.YtlfpfhdagkkliaaDoor
set_option linter.unusedVariables false
set_option linter.unusedSimpArgs false
open Go.RowKit
open Go.Maps Go.WideMaps

theorem SRBytes : SliceT Tryd.prog 29 5 1 := .of (by kernel_rfl)
theorem bCells_one (l : List UInt8) : ∀ y ∈ l.map bCell, y.all Value.oneCell' = true := fun y hy => by
  obtain ⟨x, _, rfl⟩ := List.mem_map.1 hy
  rfl
theorem bFlat (l : List UInt8) : (l.map bCell).flatten = l.flatMap bCell := rfl
set_option maxRecDepth 20000 in
set_option maxHeartbeats 4000000 in
theorem bytesClone (A : Option Addr) (n c : Nat) (l : List UInt8) (w : World) (h : Sl w 1 A n (l.map bCell)) (hn : n ≤ 33554432) :
    Calls Tryd.prog 38 #[.slice A n c] w fun e w' => ∃ v, e = .returned v ∧ BytesV w' (fun b => w.heap.size ≤ b) v l ∧ Ext Nothing w w' := by
  have hq : (binOp .eql 29 (.slice A n c) (.slice none 0 0)).run Tryd.prog w = .ok (.bool A.isNone) w := Lib.run_eql_slice_nil w _ _ A n c 0 0 Tryd.underlying29
  cases A with
  | none =>
    have hq := hq
    rw [show (none : Option Addr).isNone = true from rfl] at hq
    obtain rfl : l = [] := by
      cases l with
      | nil => rfl
      | cons x r => obtain ⟨b, off, hA, _⟩ := h.2 0 (bCell x) rfl; cases hA
    go_enter Tryd.func38, Tryd.ntmps38
    go_wp2
    go_ret
    exact ⟨_, rfl, BytesV.nil _ _, Ext.refl _ _⟩
  | some ad =>
    have hq := hq
    rw [show (some ad : Option Addr).isNone = false from rfl] at hq
    have ha : Ext Nothing w (w.alloc (.cells #[] 5)) := Ext.auto
    go_enter Tryd.func38, Tryd.ntmps38
    go_wp2_with (at_builtin; refine wpList_appS rfl _ _ 29 rfl w.heap.size SRBytes (.slice (some ⟨w.heap.size, 0, none⟩) 0 0) 0 [] rfl (World.ownsRow_made w #[] 0 (Nat.le_refl _) (Nat.zero_le _) rfl) (some ad) n c (l.map bCell) rfl (h.ext0 ha) (bCells_one l) (by omega) (by simp) ?_; intro A2 c2 w2 hown hgr; simp only [Nat.zero_add])
    go_wp2
    have hown2 : w2.ownsRow w.heap.size 5 1 (.slice A2 n c2) n (l.flatMap bCell) := by
      have h9 := hown
      rw [List.nil_append, Nat.zero_add, bFlat] at h9
      exact h9
    have hx : Ext Nothing w w2 := ha.grown hgr (fun g hg => by simp [Value.ownBlock] at hg; subst hg; exact .inl (Nat.le_refl _))
    refine bodyPost_ret (results_tmp rfl _ _ _) rfl ?_
    exact ⟨_, rfl, BytesV.own hown2 h.len (fun b hb => hb), hx⟩
set_option maxRecDepth 20000 in
set_option maxHeartbeats 4000000 in
theorem slGrow (k : Nat) (w : World) (hk : k ≤ 33554432) :
    Calls Tryd.prog 57 #[.slice none 0 0, .int .i64 (k : Int)] w fun e w' => ∃ v, e = .returned v ∧ w'.ownsRow w.heap.size 5 1 v 0 [] ∧ Ext Nothing w w' := by
  cases v1 : decide ((0 : Int) < k) with
  | false =>
    obtain rfl : k = 0 := by simp at v1; omega
    go_enter Tryd.func57, Tryd.ntmps57
    go_wp2
    go_ret
    exact ⟨_, rfl, World.ownsRow_nil _ _ _ _, Ext.refl _ _⟩
  | true =>
    have hk0 : 0 < k := by simpa using v1
    obtain ⟨i0, hi0, hz0, h1, hby⟩ : ∃ i0, Tryd.prog.info? 5 = some i0 ∧ i0.zero = some (.int .u8 0) ∧ i0.size = 1 ∧ i0.bytes = 1 := by
      have e : (Tryd.prog.info? 5).map (fun i => (i.zero, i.size, i.bytes)) = some (some (.int .u8 0), 1, 1) := by kernel_rfl
      cases hq : Tryd.prog.info? 5 with
      | none => rw [hq] at e; cases e
      | some i =>
        rw [hq] at e
        simp only [Option.map_some, Option.some.injEq, Prod.mk.injEq] at e
        exact ⟨i, rfl, e.1, e.2.1, e.2.2⟩
    have hrz : ∀ ty, (Builtin.append_ #[29, 3] ty #[.slice none 0 0, .int .i64 (k : Int)]).run Tryd.prog w =
      .ok (.slice (some ⟨w.heap.size, 0, none⟩) k (grownCap w k 0 5)) (w.drew.alloc (.cells ((#[] : Array Value) ++ Builtin.zeroCells #[.int .u8 0] k ++ Builtin.zeroCells #[.int .u8 0] (grownCap w k 0 5 - k)) 5)) := fun ty => by
      have hh := Lib.run_append_grow_zeros w 29 3 ty 5 i0 (.int .u8 0) .i64 .i64 Tryd.underlying29 Tryd.underlying3 hi0 hz0 none 0 0 [] (run_firstCells_none w.drew i0.size 0 0 0) k (by omega) (by omega) (by omega) (by omega)
        (by rw [hby]; omega) (by rw [Nat.zero_add]; exact growslice_fits (by omega) (by rw [hby]; omega))
      rw [Nat.zero_add] at hh
      exact hh
    go_enter Tryd.func57, Tryd.ntmps57
    have hG := grownCap_ge w k 0 5
    have hGm := grownCap_le_maxLen w k 0 5 (by unfold maxLen; omega)
    generalize grownCap w k 0 5 = G at hrz hG hGm ⊢
    go_wp2_with (at_builtin; refine Lib.wpList_append_run _ rfl _ _ _ _ rfl _ _ rfl rfl _ _ (hrz _) ?_)
    go_ret
    refine ⟨_, rfl, ?_, Ext.auto⟩
    have hm := World.ownsRow_made (base := w.heap.size) (e := 5) (size := 1) w (Builtin.zeroCells #[.int .u8 0] k ++ Builtin.zeroCells #[.int .u8 0] (G - k)) G (Nat.le_refl _) hGm (by rw [Array.size_append, size_zeroCells, size_zeroCells]; simp; omega)
    exact own_ext hm (Ext.refl Nothing _).drew (fun g hg e => e)
end Go.Proofs.YtlfpfhdagkkliaaDoor
