/- bytes.Clone, slices.Grow and Concat at bytes. -/
import Derived.Test.YtockcifkphfnlaaGreatDoorAk1
import Derived.Test.YtockcifkphfnlaaGreatDoorOpL
import Derived.Lib.AppendZerosOnto
import Derived.Lib.SliceRun
namespace Go.Proofs.YtockcifkphfnlaaGreatDoor
set_option linter.unusedVariables false
set_option linter.unusedSimpArgs false
open Go.RowKit
open Go.Maps Go.WideMaps
variable {M : Nat → Prop}

theorem SRBytes : SliceT Tryz.prog 38 5 1 := .of (by kernel_rfl)
theorem bCells_one (l : List UInt8) : ∀ y ∈ l.map bCell, y.all Value.oneCell' = true := fun y hy => by
  obtain ⟨x, _, rfl⟩ := List.mem_map.1 hy
  rfl
theorem bFlat (l : List UInt8) : (l.map bCell).flatten = l.flatMap bCell := rfl
set_option maxRecDepth 20000 in
set_option maxHeartbeats 4000000 in
theorem bytesClone (A : Option Addr) (n c : Nat) (l : List UInt8) (w : World) (h : Sl w 1 A n (l.map bCell)) (hn : n ≤ 33554432) :
    Calls Tryz.prog 30 #[.slice A n c] w fun e w' => ∃ v, e = .returned v ∧ BytesV w' (fun b => w.heap.size ≤ b) v l ∧ Ext Nothing w w' := by
  have hq : (binOp .eql 38 (.slice A n c) (.slice none 0 0)).run Tryz.prog w = .ok (.bool A.isNone) w := Lib.run_eql_slice_nil w _ _ A n c 0 0 Tryz.underlying38
  cases A with
  | none =>
    have hq := hq
    rw [show (none : Option Addr).isNone = true from rfl] at hq
    obtain rfl : l = [] := by
      cases l with
      | nil => rfl
      | cons x r => obtain ⟨b, off, hA, _⟩ := h.2 0 (bCell x) rfl; cases hA
    go_enter Tryz.func30, Tryz.ntmps30
    go_wp2
    go_ret
    exact ⟨_, rfl, BytesV.nil _ _, Ext.refl _ _⟩
  | some ad =>
    have hq := hq
    rw [show (some ad : Option Addr).isNone = false from rfl] at hq
    have ha : Ext Nothing w (w.alloc (.cells #[] 5)) := Ext.auto
    go_enter Tryz.func30, Tryz.ntmps30
    go_wp2_with (at_builtin; refine wpList_appS rfl _ _ 38 rfl w.heap.size SRBytes (.slice (some ⟨w.heap.size, 0, none⟩) 0 0) 0 [] rfl (World.ownsRow_made w #[] 0 (Nat.le_refl _) (Nat.zero_le _) rfl) (some ad) n c (l.map bCell) rfl (h.ext0 ha) (bCells_one l) (by omega) (by simp) ?_; intro A2 c2 w2 hown hgr; simp only [Nat.zero_add])
    go_wp2
    have hown2 : w2.ownsRow w.heap.size 5 1 (.slice A2 n c2) n (l.flatMap bCell) := by
      have h9 := hown
      rw [List.nil_append, Nat.zero_add, bFlat] at h9
      exact h9
    have hx : Ext Nothing w w2 := ha.grown hgr (fun g hg => by simp [Value.ownBlock] at hg; subst hg; exact .inl (Nat.le_refl _))
    refine bodyPost_ret (results_tmp rfl _ _ _) rfl ?_
    exact ⟨_, rfl, BytesV.own hown2 h.len (fun b hb => hb), hx⟩
end Go.Proofs.YtockcifkphfnlaaGreatDoor
