/- The machine's Exit. -/
import Derived.Test.YtockcifkphfnlaaGreatDoorAg3
namespace Go.Proofs.YtockcifkphfnlaaGreatDoor
set_option linter.unusedVariables false
set_option linter.unusedSimpArgs false
open Go.RowKit

theorem ZTTask : ZeroT Tryz.prog 96 12 := .of (by kernel_rfl)
section
variable {P : Program} {w : World} {ops : Array Oper} {rest : List Oper} {o : Oper} {a : Act} {Q : Exit → Act → World → Prop}
theorem isAl (ty : TypeId) (h0 : o.op = .alloc ty) (h : wpList P ops Q (o :: rest) a w) : wpList P ops Q (o :: rest) a w := h
theorem isLd (ty : TypeId) {x : Operand} (h0 : o.op = .load ty x) (h : wpList P ops Q (o :: rest) a w) : wpList P ops Q (o :: rest) a w := h
end
theorem run_load_b {P : Program} {o : Oper} {ρ : Operand → Value} {ty t : TypeId} {x : Operand} {sz b : Nat} {cs : Array Value} {w : World} (ho : o.op = .load ty x) (E : StructT P ty sz) (hx : ρ x = .pointer (some ⟨b, 0, none⟩)) (hg : Blk w b t cs) (hi : cs.size = sz) : (execOp ρ o).run P w = .ok (.value (.agg cs)) w :=
  run_load_struct ho E hx (fun j u hu => by rw [Nat.zero_add, hg.cell]; simpa using hu) hi
theorem run_up_op {P : Program} {o : Oper} {ρ : Operand → Value} {t : TypeId} {m k x : Operand} {vm vk vx : Value} {w w' : World} (ho : o.op = .mapUpdate t m k x) (hm : ρ m = vm) (hk : ρ k = vk) (hx : ρ x = vx) (h : (Instr.mapUpdate t vm vk vx).run P w = .ok () w') : (execOp ρ o).run P w = .ok .skip w' := by
  simp only [execOp, ho, hm, hk, hx]
  simp [h, Result.andThen]
abbrev taskCells (x : AllocD) (st : Int) : List Value := x.cells ++ [.int .i64 st]
theorem Ag.AgD.eta (s : Ag.AgD) : { s with tasks := s.tasks } = s := rfl
set_option maxRecDepth 20000 in
set_option maxHeartbeats 8000000 in
theorem agExit {Ok : Nat → Prop} {B a b mt : Nat} {s : Ag.AgD} {d : Dk.DiskD} (k : Int) (failed : Bool) (w : World) (h : AgIs w Ok B a b mt s d) (hk : In64 k) :
    Calls Tryz.prog 15 #[.pointer (some ⟨a, 0, none⟩), .int .i64 k, .bool failed] w fun e w' => e = .returned (.bool (Ag.exit s k failed).2) ∧ AgIs w' Ok B a b mt (Ag.exit s k failed).1 d ∧ Ext (AgB B w) w w' := by
  have k33 : w.cell? ⟨a, 33, none⟩ = some (.map (some mt)) := by rw [h.blk.cell]; exact ag_c33 h.beats
  have hlk := tm_look h.tasks hk true
  rw [if_pos rfl] at hlk
  obtain ⟨⟨x, st⟩, hx0⟩ : ∃ t : Ag.TaskD, t = (Ag.tfind s.tasks k).getD zTask := ⟨_, rfl⟩
  rw [← hx0] at hlk
  replace hlk : (Instr.lookup 79 (.map (some mt)) (.int .i64 k) true).run Tryz.prog w = .ok (.tuple #[.agg (taskCells x st).toArray, .bool (Ag.tfind s.tasks k).isSome]) w := hlk
  have HX := Lib.hid hx0
  clear hx0
  generalize hkn : (Ag.tfind s.tasks k).isSome = known at hlk
  have HK := Lib.hid hkn
  clear hkn
  go_enter Tryz.func15, Tryz.ntmps15
  go_upto_region 2 with (first | go_skip | go_guarded | ((with_reducible refine isAl 96 rfl ?_); refine wpList_alloc_any rfl _ rfl ZTTask ?_; intro z hz) | ((with_reducible refine isSt 96 rfl ?_); refine wpList_store_new rfl _ _ _ rfl STTask z hz rfl rfl (taskCells x st).toArray rfl rfl rfl ?_; clear hz))
  have hx1 : Ext Nothing w (w.alloc (.cells (taskCells x st).toArray 96)) := Ext.auto
  have hB1 := Blk.new w 96 (taskCells x st).toArray
  have hI1 := h.keep0 hx1
  have hK1 : Ext (AgB B w) w (w.alloc (.cells (taskCells x st).toArray 96)) := hx1.mono (fun _ _ e => e.elim)
  have hz1 := hx1.size
  have hza : a < w.heap.size := h.blk.lt
  generalize hq : w.heap.size = q at hB1 hz1 hza ⊢
  generalize (w.alloc (.cells (taskCells x st).toArray 96)) = w1 at hx1 hB1 hI1 hK1 hz1 ⊢
  have HQ := Lib.hid hq
  clear hlk k33 hq
  have r11 : w1.cell? ⟨q, 11, none⟩ = some (.int .i64 st) := hB1.cell 11
  have g11 : w1.frozen? ⟨q, 11, none⟩ = false := hB1.frozen 11
  cases known with
  | false =>
    have HR := Lib.hid (show Ag.exit s k failed = (s, false) by
      unfold Ag.exit
      have h9 := HK.out
      rw [Option.isSome_eq_false_iff, Option.isNone_iff_eq_none] at h9
      rw [h9])
    go_wp2_with (first | go_skip | go_guarded)
    go_ret
    rw [HR.out]
    exact ⟨rfl, hI1, hK1⟩
  | true =>
    cases hs2 : (st != 2) with
    | true =>
      have HR := Lib.hid (show Ag.exit s k failed = (s, false) by
        unfold Ag.exit
        have h9 := HK.out
        obtain ⟨t, ht⟩ := Option.isSome_iff_exists.1 h9
        have h8 := HX.out
        rw [ht] at h8
        rw [ht, ← show _ = t from h8]
        simp only
        rw [if_neg (by simpa using hs2)])
      go_wp2_with (first | go_skip | go_guarded)
      go_ret
      rw [HR.out]
      exact ⟨rfl, hI1, hK1⟩
    | false =>
      have HR := Lib.hid (show Ag.exit s k failed = ({ s with tasks := Ag.tput s.tasks k (x, if failed then 4 else 3) }, true) by
        unfold Ag.exit
        have h9 := HK.out
        obtain ⟨t, ht⟩ := Option.isSome_iff_exists.1 h9
        have h8 := HX.out
        rw [ht] at h8
        rw [ht, ← show _ = t from h8]
        simp only
        rw [if_pos (by simpa using hs2)])
      have hx2 : Ext (fun q' => q' = q) w1 (w1.setCell ⟨q, 11, none⟩ (.int .i64 3)) := Ext.set1 _ _ _ _
      have hB2 : Blk (w1.setCell ⟨q, 11, none⟩ (.int .i64 3)) q 96 (taskCells x 3).toArray := hB1.set_ 11 (.int .i64 3)
      have r12 : (w1.setCell ⟨q, 11, none⟩ (.int .i64 3)).cell? ⟨q, 11, none⟩ = some (.int .i64 3) := hB2.cell 11
      have g12 : (w1.setCell ⟨q, 11, none⟩ (.int .i64 3)).frozen? ⟨q, 11, none⟩ = false := hB2.frozen 11
      have hx3 : Ext (fun q' => q' = q) (w1.setCell ⟨q, 11, none⟩ (.int .i64 3)) ((w1.setCell ⟨q, 11, none⟩ (.int .i64 3)).setCell ⟨q, 11, none⟩ (.int .i64 4)) := Ext.set1 _ _ _ _
      have hB3 : Blk ((w1.setCell ⟨q, 11, none⟩ (.int .i64 3)).setCell ⟨q, 11, none⟩ (.int .i64 4)) q 96 (taskCells x 4).toArray := hB2.set_ 11 (.int .i64 4)
      cases failed with
      | false =>
        go_upto_region 7 with (first | go_skip | go_guarded)
        obtain ⟨w2, HW2⟩ : ∃ w2, w2 = (w1.setCell ⟨q, 11, none⟩ (.int .i64 3)) := ⟨_, rfl⟩
        rw [← HW2]
        have hB : Blk w2 q 96 (taskCells x 3).toArray := by rw [HW2]; exact hB2
        have hX : Ext Nothing w w2 := by rw [HW2]; exact hx1.trans hx2 (fun q' hq e => by have e : q' = q := e; have := HQ.out; omega)
        have hI2 := h.keep0 hX
        have hz2 := hX.size
        clear HW2 r11 g11 r12 g12 hx2 hx3 hB2 hB3 hB1 hI1 hK1
        have k33 : w2.cell? ⟨a, 33, none⟩ = some (.map (some mt)) := by rw [hI2.blk.cell]; exact ag_c33 h.beats
        refine zS (S := fun W' => Ext (fun q' => q' = mt) w2 W') (by kernel_rfl) ?_
        have hd : Ext Nothing w2 w2.drew := (Ext.refl _ _).drew
        have hS : Ext (fun q' => q' = mt) w2 w2.drew := (Ext.refl _ _).drew
        generalize w2.drew = Wd at hd hS ⊢
        refine zT 0 (.pointer (some ⟨a, 0, none⟩)) rfl (by kernel_rfl) (by rfl) hS (fun _ _ _ h => h) (fun W' hS' => by go_simp) ?_
        refine zT 1 (.pointer (some ⟨a, 0, none⟩)) rfl (by kernel_rfl) (by rfl) hS (fun _ _ _ h => h) (fun W' hS' => by go_simp) ?_
        refine zT 2 (.pointer (some ⟨a, 33, none⟩)) rfl (by kernel_rfl) (by rfl) hS (fun _ _ _ h => h) (fun W' hS' => by go_simp) ?_
        refine zT 3 (.map (some mt)) rfl (by kernel_rfl) (by rfl) hS (fun _ _ _ h => h) (fun W' hS' => by have q9 := hS'.cell k33 (fun e => hI2.tasks.ne hI2.blk e.symm); go_simp) ?_
        refine zT 4 (.int .i64 k) rfl (by kernel_rfl) (by rfl) hS (fun _ _ _ h => h) (fun W' hS' => by go_simp) ?_
        refine zT 5 (.agg (taskCells x 3).toArray) rfl (by kernel_rfl) (by rfl) hS (fun _ _ _ h => h) (fun W' hS' => run_load_b rfl STTask rfl (hB.ext hS' (fun e => hI2.tasks.ne hB e.symm)) rfl) ?_
        (try simp only [Act.put, zA, zB, zC, zD, zE, zF])
        refine zO 6 (by kernel_rfl) ?_
        have hId := hI2.keep0 hd
        obtain ⟨w3, hr3, hT3, hx3⟩ := tm_put hId.tasks hk (x, 3)
        refine wpOp_none (w' := w3) rfl (by rfl) ?_ ⟨hS.trans hx3 (fun _ _ e => e), wpAnyH_done (by kernel_rfl) ?_ _⟩
        · exact run_up_op rfl rfl rfl rfl hr3
        (try simp only [Act.put, zA, zB, zC, zD, zE, zF])
        have hI3 := hId.map hx3 hT3
        go_wp2_with (first | go_skip | go_guarded)
        go_ret
        rw [HR.out]
        exact ⟨rfl, hI3, AgB.trans ((hX.tr hd).mono (fun _ _ e => e.elim)) (hId.agm hx3)⟩
      | true =>
        go_upto_region 7 with (first | go_skip | go_guarded)
        obtain ⟨w2, HW2⟩ : ∃ w2, w2 = ((w1.setCell ⟨q, 11, none⟩ (.int .i64 3)).setCell ⟨q, 11, none⟩ (.int .i64 4)) := ⟨_, rfl⟩
        rw [← HW2]
        have hB : Blk w2 q 96 (taskCells x 4).toArray := by rw [HW2]; exact hB3
        have hX : Ext Nothing w w2 := by rw [HW2]; exact hx1.trans (hx2.trans hx3 (fun _ _ e => e)) (fun q' hq e => by have e : q' = q := e; have := HQ.out; omega)
        have hI2 := h.keep0 hX
        have hz2 := hX.size
        clear HW2 r11 g11 r12 g12 hx2 hx3 hB2 hB3 hB1 hI1 hK1
        have k33 : w2.cell? ⟨a, 33, none⟩ = some (.map (some mt)) := by rw [hI2.blk.cell]; exact ag_c33 h.beats
        refine zS (S := fun W' => Ext (fun q' => q' = mt) w2 W') (by kernel_rfl) ?_
        have hd : Ext Nothing w2 w2.drew := (Ext.refl _ _).drew
        have hS : Ext (fun q' => q' = mt) w2 w2.drew := (Ext.refl _ _).drew
        generalize w2.drew = Wd at hd hS ⊢
        refine zT 0 (.pointer (some ⟨a, 0, none⟩)) rfl (by kernel_rfl) (by rfl) hS (fun _ _ _ h => h) (fun W' hS' => by go_simp) ?_
        refine zT 1 (.pointer (some ⟨a, 0, none⟩)) rfl (by kernel_rfl) (by rfl) hS (fun _ _ _ h => h) (fun W' hS' => by go_simp) ?_
        refine zT 2 (.pointer (some ⟨a, 33, none⟩)) rfl (by kernel_rfl) (by rfl) hS (fun _ _ _ h => h) (fun W' hS' => by go_simp) ?_
        refine zT 3 (.map (some mt)) rfl (by kernel_rfl) (by rfl) hS (fun _ _ _ h => h) (fun W' hS' => by have q9 := hS'.cell k33 (fun e => hI2.tasks.ne hI2.blk e.symm); go_simp) ?_
        refine zT 4 (.int .i64 k) rfl (by kernel_rfl) (by rfl) hS (fun _ _ _ h => h) (fun W' hS' => by go_simp) ?_
        refine zT 5 (.agg (taskCells x 4).toArray) rfl (by kernel_rfl) (by rfl) hS (fun _ _ _ h => h) (fun W' hS' => run_load_b rfl STTask rfl (hB.ext hS' (fun e => hI2.tasks.ne hB e.symm)) rfl) ?_
        (try simp only [Act.put, zA, zB, zC, zD, zE, zF])
        refine zO 6 (by kernel_rfl) ?_
        have hId := hI2.keep0 hd
        obtain ⟨w3, hr3, hT3, hx3⟩ := tm_put hId.tasks hk (x, 4)
        refine wpOp_none (w' := w3) rfl (by rfl) ?_ ⟨hS.trans hx3 (fun _ _ e => e), wpAnyH_done (by kernel_rfl) ?_ _⟩
        · exact run_up_op rfl rfl rfl rfl hr3
        (try simp only [Act.put, zA, zB, zC, zD, zE, zF])
        have hI3 := hId.map hx3 hT3
        go_wp2_with (first | go_skip | go_guarded)
        go_ret
        rw [HR.out]
        exact ⟨rfl, hI3, AgB.trans ((hX.tr hd).mono (fun _ _ e => e.elim)) (hId.agm hx3)⟩
end Go.Proofs.YtockcifkphfnlaaGreatDoor
