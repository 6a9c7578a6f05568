/- The reference's Copy of a job: its groups lie in a row of their own. -/
import Derived.Test.YtfmkoemogicdkaaGreatOpL
import Derived.Test.YtfmkoemogicdkaaGreatSchedR
import Derived.Test.YtfmkoemogicdkaaGreatAt
namespace Go.Proofs.YtfmkoemogicdkaaGreat
set_option linter.unusedVariables false
open Go.RowKit

theorem SRGroup : SliceT Tryz.prog 41 88 3 := .of (by kernel_rfl)
theorem SRJob : SliceT Tryz.prog 22 43 7 := .of (by kernel_rfl)
theorem SRNode : SliceT Tryz.prog 23 37 8 := .of (by kernel_rfl)
theorem SRAlloc : SliceT Tryz.prog 24 55 11 := .of (by kernel_rfl)
theorem SREval : SliceT Tryz.prog 25 39 4 := .of (by kernel_rfl)
theorem SRDeploy : SliceT Tryz.prog 26 69 4 := .of (by kernel_rfl)
theorem STSeen : StructT Tryz.prog 49 5 := .of (by kernel_rfl)
theorem SRSeen : SliceT Tryz.prog 27 49 5 := .of (by kernel_rfl)
theorem cellsOne {α : Type} {f : α → List Value} (hf : ∀ x, (f x).all Value.oneCell' = true) (l : List α) : ∀ y ∈ l.map f, y.all Value.oneCell' = true := fun y hy => by
  obtain ⟨x, _, rfl⟩ := List.mem_map.1 hy
  exact hf x

set_option maxHeartbeats 2000000 in
theorem refJob (x : JobD) (AG : Option Addr) (nG cG : Nat) (w : World) (hG : Sl w 3 AG nG (x.groups.map GroupD.cells)) (hn : nG ≤ 1048576) :
    Calls Tryz.prog 13 #[.agg #[.int .i64 x.id, .int .i64 x.ty, .int .i64 x.prio, .int .i64 x.par, .slice AG nG cG, .int .i64 x.ver, .bool x.stopped]] w fun e w' => ∃ A c, e = .returned (.agg #[.int .i64 x.id, .int .i64 x.ty, .int .i64 x.prio, .int .i64 x.par, .slice A nG c, .int .i64 x.ver, .bool x.stopped]) ∧ w'.ownsRow w.heap.size 88 3 (.slice A nG c) nG (x.groups.flatMap GroupD.cells) ∧ Ext Nothing w w' := by
  have hx0 : Ext Nothing w ((w.alloc (.cells #[.int .i64 x.id, .int .i64 x.ty, .int .i64 x.prio, .int .i64 x.par, .slice AG nG cG, .int .i64 x.ver, .bool x.stopped] 43)).alloc (.cells #[.int .i64 0, .int .i64 0, .int .i64 0, .int .i64 0, .slice none 0 0, .int .i64 0, .bool false] 43)) := by (repeat' (first | (with_reducible assumption) | (with_reducible exact Ext.refl _ _) | (with_reducible refine Ext.alloc ?_ _) | (with_reducible refine Ext.drew ?_) | (with_reducible refine Ext.drewN ?_ _) | (with_reducible refine Ext.setCell ?_ (.inl (by simp only [World.size_alloc, World.size_setCell, World.size_drew] <;> omega)) _) | (with_reducible refine Ext.trans ?_ (by assumption) (fun _ _ e => e))))
  have hb0 : Blk ((w.alloc (.cells #[.int .i64 x.id, .int .i64 x.ty, .int .i64 x.prio, .int .i64 x.par, .slice AG nG cG, .int .i64 x.ver, .bool x.stopped] 43)).alloc (.cells #[.int .i64 0, .int .i64 0, .int .i64 0, .int .i64 0, .slice none 0 0, .int .i64 0, .bool false] 43)) w.heap.size 43 #[.int .i64 x.id, .int .i64 x.ty, .int .i64 x.prio, .int .i64 x.par, .slice AG nG cG, .int .i64 x.ver, .bool x.stopped] := (Blk.new w _ _).ext (S := Nothing) (by (repeat' (first | (with_reducible assumption) | (with_reducible exact Ext.refl _ _) | (with_reducible refine Ext.alloc ?_ _) | (with_reducible refine Ext.drew ?_) | (with_reducible refine Ext.drewN ?_ _) | (with_reducible refine Ext.setCell ?_ (.inl (by simp only [World.size_alloc, World.size_setCell, World.size_drew] <;> omega)) _) | (with_reducible refine Ext.trans ?_ (by assumption) (fun _ _ e => e))))) (fun e => e)
  have hr0 : Blk ((w.alloc (.cells #[.int .i64 x.id, .int .i64 x.ty, .int .i64 x.prio, .int .i64 x.par, .slice AG nG cG, .int .i64 x.ver, .bool x.stopped] 43)).alloc (.cells #[.int .i64 0, .int .i64 0, .int .i64 0, .int .i64 0, .slice none 0 0, .int .i64 0, .bool false] 43)) (w.heap.size + 1) 43 #[.int .i64 0, .int .i64 0, .int .i64 0, .int .i64 0, .slice none 0 0, .int .i64 0, .bool false] := Blk.new' _ _ _ (by simp)
  have hG2 := hG.ext0 hx0
  have hz : ((w.alloc (.cells #[.int .i64 x.id, .int .i64 x.ty, .int .i64 x.prio, .int .i64 x.par, .slice AG nG cG, .int .i64 x.ver, .bool x.stopped] 43)).alloc (.cells #[.int .i64 0, .int .i64 0, .int .i64 0, .int .i64 0, .slice none 0 0, .int .i64 0, .bool false] 43)).heap.size = w.heap.size + 2 := by simp
  have HZ := Lib.hid hz
  clear hz
  go_enter Tryz.func13, Tryz.ntmps13
  go_wp2_with (first | (at_builtin; refine wpList_appS rfl _ _ 41 rfl w.heap.size SRGroup (.slice none 0 0) 0 [] rfl (World.ownsRow_nil ..) AG nG cG (x.groups.map GroupD.cells) rfl hG2 (cellsOne (fun _ => rfl) _) (by omega) (by have := HZ.out; omega) ?_; intro A c w1 hown hgr; simp only [Nat.zero_add]; have hg1 := Ext.of_grown (S := Nothing) hgr (fun g e => by simp [Value.ownBlock] at e); have hb1 := hb0.ext hg1 (fun e => e); have hr1 := hr0.ext hg1 (fun e => e); have q4 : w1.cell? ⟨w.heap.size, 4, none⟩ = some (.slice AG nG cG) := hb1.cell 4; have f4 : w1.frozen? ⟨w.heap.size, 4, none⟩ = false := hb1.frozen 4; have hb2 : Blk (w1.setCell ⟨w.heap.size, 4, none⟩ (.slice A nG c)) w.heap.size 43 #[.int .i64 x.id, .int .i64 x.ty, .int .i64 x.prio, .int .i64 x.par, .slice A nG c, .int .i64 x.ver, .bool x.stopped] := hb1.set_ 4 _; have hx3 : Ext (fun q => q = w.heap.size) w1 (w1.setCell ⟨w.heap.size, 4, none⟩ (.slice A nG c)) := Ext.set1 _ _ _ _; have hr2 := hr1.ext hx3 (by omega)) | (refine wpList_load_blk rfl 43 _ rfl STJob w.heap.size rfl #[.int .i64 x.id, .int .i64 x.ty, .int .i64 x.prio, .int .i64 x.par, .slice A nG c, .int .i64 x.ver, .bool x.stopped] hb2 rfl ?_) | (refine wpList_store_blk rfl 43 _ _ rfl STJob (w.heap.size + 1) rfl #[.int .i64 x.id, .int .i64 x.ty, .int .i64 x.prio, .int .i64 x.par, .slice A nG c, .int .i64 x.ver, .bool x.stopped] rfl hr2 rfl rfl rfl ?_; intro w4 hr4 hx4))
  have hown2 : w1.ownsRow w.heap.size 88 3 (.slice A nG c) nG (x.groups.flatMap GroupD.cells) := by
    have h1 : [] ++ (x.groups.map GroupD.cells).flatten = x.groups.flatMap GroupD.cells := rfl
    rw [h1, Nat.zero_add] at hown
    exact hown
  have hne := own_ne hown2 hb1 (by decide)
  have hne2 := own_ne hown2 hr1 (by decide)
  exact bodyPost_ret (results_cell rfl STJob (g := w.heap.size + 1) rfl hr4 rfl) rfl ⟨A, c, rfl, own_ext (own_ext hown2 hx3 (fun g hg e => hne (e ▸ hg))) hx4 (fun g hg e => hne2 (e ▸ hg)), ((hx0.trans hg1 (fun _ _ e => e)).trans hx3 (fun q hq e => by omega)).trans hx4 (fun q hq e => by omega)⟩
end Go.Proofs.YtfmkoemogicdkaaGreat
