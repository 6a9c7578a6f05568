/- codec.PutCmd of any command that lies in memory: an error or none; nothing that was there has changed. -/
import Derived.Test.YtjcjiokneibfdaaGreatDoorCf6
namespace Go.Proofs.YtjcjiokneibfdaaGreatDoor
set_option linter.unusedVariables false
set_option linter.unusedSimpArgs false
open Go.RowKit

theorem STcfCmd : StructT Tryz.prog 37 27 := .of (by kernel_rfl)
/-- the cells of a command, its lists in memory below B -/
structure CmdOk (B : Nat) (w : World) (cs : Array Value) : Prop where
  size : cs.size = 27
  one : cs.toList.all Value.oneCell' = true
  ints : ∀ k ∈ [0, 1, 2, 3, 4, 5, 6, 8, 10, 11, 12, 15, 16, 17, 19, 20, 21], ∃ i, cs[k]? = some (.int .i64 i)
  bools : ∀ k ∈ [9, 13, 14, 24], ∃ q, cs[k]? = some (.bool q)
  groups : LsG 3 IsGroup B w cs[7]?
  reports : LsG 2 IsReport B w cs[18]?
  stops : LsG 1 IsInt B w cs[22]?
  places : LsG 11 IsAlloc B w cs[23]?
  voters : LsG 1 IsInt B w cs[25]?
  learners : LsG 1 IsInt B w cs[26]?
theorem CmdOk.e0 {B : Nat} {w w' : World} {cs : Array Value} (h : CmdOk B w cs) (hx : Ext Nothing w w') : CmdOk B w' cs :=
  ⟨h.size, h.one, h.ints, h.bools, h.groups.e0 hx, h.reports.e0 hx, h.stops.e0 hx, h.places.e0 hx, h.voters.e0 hx, h.learners.e0 hx⟩
theorem CmdOk.ext {B : Nat} {S : Nat → Prop} {w w' : World} {cs : Array Value} (h : CmdOk B w cs) (hx : Ext S w w') (hS : ∀ b, S b → B ≤ b) : CmdOk B w' cs := by
  have key : ∀ {sz : Nat} {P : List Value → Prop} {v : Option Value}, LsG sz P B w v → LsG sz P B w' v := fun h => by
    obtain ⟨A, n, c, xs, h1, h2, h3, h4⟩ := h
    exact ⟨A, n, c, xs, h1, h2.ext hx (fun g e ne hf => by have := hS g hf; have := h3 g e ne; omega), h3, h4⟩
  exact ⟨h.size, h.one, h.ints, h.bools, key h.groups, key h.reports, key h.stops, key h.places, key h.voters, key h.learners⟩
set_option maxRecDepth 20000 in
set_option maxHeartbeats 8000000 in
theorem cfPut {B : Nat} {cs : Array Value} (w : World) (h : CmdOk B w cs) (hB : B ≤ w.heap.size) :
    Calls Tryz.prog 48 #[.agg cs, .func (.func 49) #[] #[]] w fun e w' => ∃ (v : Value) (code : Int), e = .returned (.tuple #[v, .int .i64 code]) ∧ (code = 0 ∨ code = 1) ∧ Ext Nothing w w' := by
  have hx1 : Ext Nothing w (w.alloc (.cells cs 37)) := Ext.auto
  have hr1 := CRec.new w 37 cs (by decide) (by decide)
  go_enter Tryz.func48, Tryz.ntmps48
  go_upto_region 1 with (first | go_skip | go_guarded)
  generalize (w.alloc (.cells cs 37)) = w1 at hx1 hr1 ⊢
  have hB1 : B ≤ w1.heap.size := Nat.le_trans hB hx1.size
  have h1 := (h.e0 hx1)
  have hx2 : Ext Nothing w1 (w1.alloc (.cells #[.slice none 0 0, .bool false, .bool false] 250)) := Ext.auto
  have hf2 : Form (w1.alloc (.cells #[.slice none 0 0, .bool false, .bool false] 250)) w1.heap.size 0 false := ⟨_, 0, [], Blk.new w1 _ _, World.ownsRow_nil _ _ _ _, Nat.le_refl _⟩
  have h2 := h1.e0 hx2
  have hr2 := hr1.e0 hx2
  generalize w.heap.size = xb at hr1 hr2 ⊢
  have hcall := cfCmd (o := 0) _ hf2 hr2 (h2.ints 0 (by decide)) (h2.ints 1 (by decide)) (h2.ints 2 (by decide)) (h2.ints 3 (by decide)) (h2.ints 4 (by decide)) (h2.ints 5 (by decide)) (h2.ints 6 (by decide)) (h2.ints 8 (by decide))
    (h2.ints 10 (by decide)) (h2.ints 11 (by decide)) (h2.ints 12 (by decide)) (h2.ints 15 (by decide)) (h2.ints 16 (by decide)) (h2.ints 17 (by decide)) (h2.ints 19 (by decide)) (h2.ints 20 (by decide)) (h2.ints 21 (by decide))
    (h2.bools 9 (by decide)) (h2.bools 13 (by decide)) (h2.bools 14 (by decide)) (h2.bools 24 (by decide)) (h2.groups.mono hB1) (h2.reports.mono hB1) (h2.stops.mono hB1) (h2.places.mono hB1) (h2.voters.mono hB1) (h2.learners.mono hB1) (by omega)
  clear h1 h2 h hr1 hr2
  go_upto_region 3 with (first | go_skip | go_guarded | (go_at_call 49; (with_reducible refine hcall.mono ?_); rintro e w3 ⟨rfl, hx3, bad3, ⟨v3, n3, xs3, f3⟩, hb3⟩))
  have hxa : Ext Nothing w w3 := (hx1.tr hx2).trans hx3 (fun b hb e => by have := e.1; have := hx1.size; omega)
  have cb : w3.cell? ⟨w1.heap.size, 2, none⟩ = some (.bool bad3) := by rw [f3.blk.cell]; rfl
  have c0 : w3.cell? ⟨w1.heap.size, 0, none⟩ = some v3 := by rw [f3.blk.cell]; rfl
  clear hcall hx3 hf2 hx1 hx2
  cases bad3 with
  | true =>
    go_wp2_with (first | go_skip | go_guarded)
    exact bodyPost_ret (results_tmp2 rfl _ _ _) rfl ⟨_, 1, rfl, .inr rfl, hxa⟩
  | false =>
    go_wp2_with (first | go_skip | go_guarded)
    exact bodyPost_ret (results_tmp2 rfl _ _ _) rfl ⟨_, 0, rfl, .inl rfl, hxa⟩
set_option maxRecDepth 20000 in
set_option maxHeartbeats 8000000 in
theorem cfPutCmd {B : Nat} {cs : Array Value} (w : World) (h : CmdOk B w cs) (hB : B ≤ w.heap.size) :
    Calls Tryz.prog 18 #[.agg cs] w fun e w' => ∃ (v : Value) (code : Int), e = .returned (.tuple #[v, .int .i64 code]) ∧ (code = 0 ∨ code = 1) ∧ Ext Nothing w w' := by
  have hx1 : Ext Nothing w (w.alloc (.cells cs 37)) := Ext.auto
  have hb1 := Blk.new w 37 cs
  have hcall := cfPut _ (h.e0 hx1) (Nat.le_trans hB hx1.size)
  go_enter Tryz.func18, Tryz.ntmps18
  go_wp2_with (first | go_skip | go_guarded | ((with_reducible refine cLd 37 rfl ?_); refine wpList_load_blk rfl 37 _ rfl STcfCmd w.heap.size rfl cs hb1 h.size ?_) | (go_at_call 48; (with_reducible refine hcall.mono ?_); rintro e w2 ⟨v, code, rfl, hc, hx2⟩))
  exact bodyPost_ret (results_tmp2 rfl _ _ _) rfl ⟨v, code, rfl, hc, hx1.tr hx2⟩
end Go.Proofs.YtjcjiokneibfdaaGreatDoor
