/- A machine registers, and runs what it is told: lives is true. (printed by wip/gen/aglives.py) -/
import Derived.Test.YtockcifkphfnlaaGreatDoorAgB
namespace Go.Proofs.YtockcifkphfnlaaGreatDoor
set_option linter.unusedVariables false
set_option linter.unusedSimpArgs false
open Go.RowKit

def x7 : AllocD := ⟨7, 0, 0, 0, 0, 2, 5, ⟨0, 0⟩, false, 0⟩
theorem limOf {s : Ag.AgD} {d : Dk.DiskD} {N : Nat} (h1 : 0 ≤ s.boot ∧ s.boot ≤ 1099511627776) (h2 : 0 ≤ s.clock ∧ s.clock ≤ N) (h3 : 0 ≤ s.count ∧ s.count ≤ N) (h4 : 0 ≤ s.seq ∧ s.seq ≤ N) (h5 : 1 ≤ s.servers ∧ s.servers ≤ 5) (h6 : 0 ≤ s.taken) (h7 : s.tasks.length ≤ 1048577) (h8 : ∀ p ∈ s.beats, 0 ≤ p.2 ∧ p.2 ≤ N) (h9 : d.done.length ≤ 2 * N) : Ag.Lim s d N := ⟨h1, h2, h3, h4, h5, h6, h7, h8, h9⟩
theorem tk0 (d : Dk.DiskD) : Ag.tick ⟨3, 1, false, 0, 0, 0, 0, 0, Ag.noBeats, [], 0, 0⟩ d = (⟨3, 1, false, 1, 0, 0, 0, 0, Ag.noBeats, [], 0, 0⟩, d, none, 0) := rfl
theorem tk1 (d : Dk.DiskD) : Ag.tick ⟨3, 1, false, 1, 0, 0, 0, 0, Ag.noBeats, [], 0, 0⟩ d = (⟨3, 1, false, 2, 0, 0, 0, 0, Ag.noBeats, [], 0, 0⟩, d, none, 0) := rfl
theorem tk2 (d : Dk.DiskD) : Ag.tick ⟨3, 1, false, 2, 0, 0, 0, 0, Ag.noBeats, [], 0, 0⟩ d = (⟨3, 1, false, 3, 0, 0, 0, 0, Ag.noBeats, [], 1, 0⟩, d, some ⟨9, 102, 1, 1, 0, 5, 1, 0, 0, 0⟩, 0) := rfl
theorem tk3 (d : Dk.DiskD) : Ag.take ⟨3, 1, false, 3, 0, 0, 0, 0, Ag.noBeats, [], 1, 0⟩ d ⟨10, 1, 102, 1, 0, 5, 1, 0, 0, 5⟩ [] = (⟨3, 1, false, 3, 5, 11, 0, 0, Ag.noBeats, [], 1, 0⟩, d, 0) := rfl
theorem tk4 (d : Dk.DiskD) : Ag.tick ⟨3, 1, false, 3, 5, 11, 0, 0, Ag.noBeats, [], 1, 0⟩ d = (⟨3, 1, false, 4, 5, 11, 0, 0, Ag.noBeats, [], 1, 0⟩, d, none, 0) := rfl
theorem tk5 (d : Dk.DiskD) : Ag.tick ⟨3, 1, false, 4, 5, 11, 0, 0, Ag.noBeats, [], 1, 0⟩ d = (⟨3, 1, false, 5, 5, 11, 0, 0, Ag.noBeats, [], 1, 0⟩, d, none, 0) := rfl
theorem tk6 (d : Dk.DiskD) : Ag.tick ⟨3, 1, false, 5, 5, 11, 0, 0, Ag.noBeats, [], 1, 0⟩ d = (⟨3, 1, false, 6, 5, 11, 1, 0, [(0, 0), (1, 6), (0, 0), (0, 0), (0, 0), (0, 0), (0, 0), (0, 0)], [], 2, 0⟩, d, some ⟨9, 102, 2, 1, 0, 6, 0, 5, 0, 0⟩, 0) := rfl
theorem tk7 (d : Dk.DiskD) : Ag.take ⟨3, 1, false, 6, 5, 11, 1, 0, [(0, 0), (1, 6), (0, 0), (0, 0), (0, 0), (0, 0), (0, 0), (0, 0)], [], 2, 0⟩ d ⟨10, 2, 102, 1, 0, 6, 0, 5, 0, 5⟩ [x7] = (⟨3, 1, false, 6, 5, 14, 1, 1, [(0, 0), (1, 6), (0, 0), (0, 0), (0, 0), (0, 0), (0, 0), (0, 0)], [(7, (x7, 2))], 2, 0⟩, d, 0) := rfl
theorem tk8 : Ag.exit ⟨3, 1, false, 6, 5, 14, 1, 1, [(0, 0), (1, 6), (0, 0), (0, 0), (0, 0), (0, 0), (0, 0), (0, 0)], [(7, (x7, 2))], 2, 0⟩ 7 false = (⟨3, 1, false, 6, 5, 14, 1, 1, [(0, 0), (1, 6), (0, 0), (0, 0), (0, 0), (0, 0), (0, 0), (0, 0)], [(7, (x7, 3))], 2, 0⟩, true) := rfl
theorem tk9 : Ag.exit ⟨3, 1, false, 6, 5, 14, 1, 1, [(0, 0), (1, 6), (0, 0), (0, 0), (0, 0), (0, 0), (0, 0), (0, 0)], [(7, (x7, 3))], 2, 0⟩ 7 false = (⟨3, 1, false, 6, 5, 14, 1, 1, [(0, 0), (1, 6), (0, 0), (0, 0), (0, 0), (0, 0), (0, 0), (0, 0)], [(7, (x7, 3))], 2, 0⟩, false) := rfl
theorem lwRun {w0 w : World} {a b : Nat} {s : Ag.AgD} {d : Dk.DiskD} {l : List AllocD} (n : Nat) (h : Law w0 w a b s d) (hT : s.tasks.length ≤ 1048577) (hr : Ag.running s = l) (hn : l.length = n) :
    Calls Tryz.prog 11 #[.pointer (some ⟨a, 0, none⟩)] w fun e w' => ∃ A c, e = .returned (.slice A n c) ∧ Sl w' 11 A n (l.map AllocD.cells) ∧ Ext Nothing w w' := by
  have hc := lwRunning h hT
  rw [hr, hn] at hc
  refine hc.mono ?_
  rintro e w' ⟨v, rfl, ho, hx⟩
  obtain ⟨A, c, rfl⟩ := own_slice ho
  exact ⟨A, c, rfl, Sl.of_own (f := AllocD.cells) (fun _ => rfl) ho hn.symm, hx⟩
theorem slOne {w : World} {q : Nat} {x : AllocD} (h : Blk w q 67 x.cells.toArray) : Sl w 11 (some ⟨q, 0, none⟩) 1 ([x].map AllocD.cells) := by
  refine ⟨rfl, fun i cs hi => ?_⟩
  match i, hi with
  | 0, hi =>
    cases hi
    refine ⟨q, 0, rfl, rfl, fun j u hu => ?_⟩
    rw [h.cell]
    simpa using hu
  | (i+1), hi => simp at hi
theorem STAllocH : StructT Tryz.prog 67 11 := .of (by kernel_rfl)
set_option maxRecDepth 20000 in
set_option maxHeartbeats 16000000 in
theorem lawLives (w : World) (htab : HTab w) : Calls Tryz.prog 16 #[] w fun e w' => e = .returned (.bool true) ∧ Ext Nothing w w' := by
  have hB1 : Ag.Lim ⟨3, 1, false, 0, 0, 0, 0, 0, Ag.noBeats, [], 0, 0⟩ ⟨Ag.bootFile 1, [], -1⟩ 100 := limOf (by decide) (by decide) (by decide) (by decide) (by decide) (by decide) (by decide) (by decide) (by decide)
  have hB2 : Ag.Lim ⟨3, 1, false, 1, 0, 0, 0, 0, Ag.noBeats, [], 0, 0⟩ ⟨Ag.bootFile 1, [], -1⟩ 100 := limOf (by decide) (by decide) (by decide) (by decide) (by decide) (by decide) (by decide) (by decide) (by decide)
  have hB3 : Ag.Lim ⟨3, 1, false, 2, 0, 0, 0, 0, Ag.noBeats, [], 0, 0⟩ ⟨Ag.bootFile 1, [], -1⟩ 100 := limOf (by decide) (by decide) (by decide) (by decide) (by decide) (by decide) (by decide) (by decide) (by decide)
  have hB4 : Ag.Lim ⟨3, 1, false, 3, 0, 0, 0, 0, Ag.noBeats, [], 1, 0⟩ ⟨Ag.bootFile 1, [], -1⟩ 100 := limOf (by decide) (by decide) (by decide) (by decide) (by decide) (by decide) (by decide) (by decide) (by decide)
  have hB5 : Ag.Lim ⟨3, 1, false, 3, 5, 11, 0, 0, Ag.noBeats, [], 1, 0⟩ ⟨Ag.bootFile 1, [], -1⟩ 100 := limOf (by decide) (by decide) (by decide) (by decide) (by decide) (by decide) (by decide) (by decide) (by decide)
  have hB6 : Ag.Lim ⟨3, 1, false, 4, 5, 11, 0, 0, Ag.noBeats, [], 1, 0⟩ ⟨Ag.bootFile 1, [], -1⟩ 100 := limOf (by decide) (by decide) (by decide) (by decide) (by decide) (by decide) (by decide) (by decide) (by decide)
  have hB7 : Ag.Lim ⟨3, 1, false, 5, 5, 11, 0, 0, Ag.noBeats, [], 1, 0⟩ ⟨Ag.bootFile 1, [], -1⟩ 100 := limOf (by decide) (by decide) (by decide) (by decide) (by decide) (by decide) (by decide) (by decide) (by decide)
  have hB8 : Ag.Lim ⟨3, 1, false, 6, 5, 11, 1, 0, [(0, 0), (1, 6), (0, 0), (0, 0), (0, 0), (0, 0), (0, 0), (0, 0)], [], 2, 0⟩ ⟨Ag.bootFile 1, [], -1⟩ 100 := limOf (by decide) (by decide) (by decide) (by decide) (by decide) (by decide) (by decide) (by decide) (by decide)
  have t1 := tk0 ⟨Ag.bootFile 1, [], -1⟩
  have t2 := tk1 ⟨Ag.bootFile 1, [], -1⟩
  have t3 := tk2 ⟨Ag.bootFile 1, [], -1⟩
  have t4 := tk3 ⟨Ag.bootFile 1, [], -1⟩
  have t5 := tk4 ⟨Ag.bootFile 1, [], -1⟩
  have t6 := tk5 ⟨Ag.bootFile 1, [], -1⟩
  have t7 := tk6 ⟨Ag.bootFile 1, [], -1⟩
  have t8 := tk7 ⟨Ag.bootFile 1, [], -1⟩
  go_enter Tryz.func16, Tryz.ntmps16
  go_upto_region 4 with (first | go_skip | go_guarded | ((with_reducible refine isBd 30 rfl ?_); refine wpList_build rfl _ _ rfl #[.int .i64 2, .int .i64 0, .int .i64 0, .bool false, .bool false, .int .i64 0, .int .i64 0, .int .i64 0] (by kernel_rfl) ?_) | (go_at_call 7; (with_reducible refine (dkNew (M := Nothing) w (fun _ => False) (fun _ e => e.elim)).mono ?_); rintro e w1 ⟨b, rfl, hd, hb, hx0⟩) | (go_at_call 6; (with_reducible refine (lwStart 3 hd hb hx0 htab (by decide) (by decide)).mono ?_); rintro e w2 ⟨a, rfl, hL0, ha, hxS⟩; have hL0 : Law w w2 a b ⟨3, 1, false, 0, 0, 0, 0, 0, Ag.noBeats, [], 0, 0⟩ ⟨Ag.bootFile 1, [], -1⟩ := hL0))
  go_upto_region 7 with (first | go_skip | go_guarded | (go_at_call 9; (with_reducible refine (lwTick hL0 hB1 (by omega) t1).mono ?_); rintro e w3 ⟨v1, rfl, hm1, hL1, hx1⟩) | (go_at_call 9; (with_reducible refine (lwTick hL1 hB2 (by omega) t2).mono ?_); rintro e w4 ⟨v2, rfl, hm2, hL2, hx2⟩) | (go_at_call 9; (with_reducible refine (lwTick hL2 hB3 (by omega) t3).mono ?_); rintro e w5 ⟨v3, rfl, hm3, hL3, hx3⟩))
  obtain ⟨g, cs, rfl, hG, hGI⟩ := hm3
  have hGz := hGI.size
  have p16 : w5.cell? ⟨g, 16, none⟩ = some (.int .i64 5) := (hG.cell 16).trans hGI.op
  have p8 : w5.cell? ⟨g, 8, none⟩ = some (.int .i64 1) := (hG.cell 8).trans hGI.ctx
  have p2 : w5.cell? ⟨g, 2, none⟩ = some (.int .i64 1) := (hG.cell 2).trans hGI.dest
  have hAN := lawAnswer cs #[.int .i64 0, .int .i64 0, .bool false, .int .i64 0, .int .i64 5, .slice none 0 0, .int .i64 0, .int .i64 0, .int .i64 0, .int .i64 0, .int .i64 0, .int .i64 0, .int .i64 0, .bool false, .int .i64 0, .int .i64 0, .int .i64 0, .int .i64 0, .slice none 0 0, .slice none 0 0, .slice none 0 0, .slice none 0 0, .int .i64 0, .int .i64 0, .int .i64 0, .int .i64 0, .int .i64 0, .int .i64 0, .int .i64 0, .slice none 0 0, .int .i64 0, .bool false, .int .i64 0, .int .i64 0, .int .i64 0, .bool false, .bool false, .int .i64 0, .int .i64 0, .int .i64 0, .slice none 0 0, .int .i64 0, .int .i64 0, .int .i64 0, .slice none 0 0, .slice none 0 0, .bool false, .slice none 0 0, .slice none 0 0, .int .i64 0, .int .i64 0, .slice none 0 0] _ 0 0 5 none 0 0 w5 hGI ⟨rfl, rfl, rfl, rfl, rfl⟩
  go_upto_region 10 with (first | go_skip | go_guarded | ((with_reducible refine isLd 51 rfl ?_); refine wpList_load_blk rfl 51 _ rfl STMsg g rfl cs hG hGz ?_) | ((with_reducible refine isBd 53 rfl ?_); refine wpList_build rfl _ _ rfl #[.int .i64 0, .int .i64 0, .bool false, .int .i64 0, .int .i64 5, .slice none 0 0, .int .i64 0, .int .i64 0, .int .i64 0, .int .i64 0, .int .i64 0, .int .i64 0, .int .i64 0, .bool false, .int .i64 0, .int .i64 0, .int .i64 0, .int .i64 0, .slice none 0 0, .slice none 0 0, .slice none 0 0, .slice none 0 0, .int .i64 0, .int .i64 0, .int .i64 0, .int .i64 0, .int .i64 0, .int .i64 0, .int .i64 0, .slice none 0 0, .int .i64 0, .bool false, .int .i64 0, .int .i64 0, .int .i64 0, .bool false, .bool false, .int .i64 0, .int .i64 0, .int .i64 0, .slice none 0 0, .int .i64 0, .int .i64 0, .int .i64 0, .slice none 0 0, .slice none 0 0, .bool false, .slice none 0 0, .slice none 0 0, .int .i64 0, .int .i64 0, .slice none 0 0] (by kernel_rfl) ?_) | (go_at_call 12; (with_reducible refine hAN.mono ?_); rintro e w6 ⟨cs6, rfl, hI6, h456, hx6⟩) | (go_at_call 14; (with_reducible refine (lwTake (l := []) (hL3.e0 hx6) hB4 (by omega) hI6 (show In64 1 by unfold In64; omega) h456 (Sl.nil _ _ _) (by omega) (fun _ _ e => absurd rfl e) (fun _ e => absurd e (by simp)) t4).mono ?_); rintro e w7 ⟨rfl, hL4, hx7⟩))
  clear hG hGz hGI p16 p8 p2 hAN h456 hI6
  go_upto_region 13 with (first | go_skip | go_guarded | (go_at_call 9; (with_reducible refine (lwTick hL4 hB5 (by omega) t5).mono ?_); rintro e w8 ⟨v5, rfl, hm5, hL5, hx5⟩) | (go_at_call 9; (with_reducible refine (lwTick hL5 hB6 (by omega) t6).mono ?_); rintro e w9 ⟨v6, rfl, hm6, hL6, hx6⟩) | (go_at_call 9; (with_reducible refine (lwTick hL6 hB7 (by omega) t7).mono ?_); rintro e w10 ⟨v7, rfl, hm7, hL7, hx7⟩))
  obtain ⟨g, cs, rfl, hG, hGI⟩ := hm7
  have hGz := hGI.size
  have p16 : w10.cell? ⟨g, 16, none⟩ = some (.int .i64 6) := (hG.cell 16).trans hGI.op
  have p2 : w10.cell? ⟨g, 2, none⟩ = some (.int .i64 2) := (hG.cell 2).trans hGI.dest
  go_upto_region 15 with (first | go_skip | go_guarded | (go_at_call 10; (with_reducible refine (lwEpoch hL7).mono ?_); rintro e wE ⟨rfl, hw9⟩; rw [hw9]; clear hw9))
  have hAN := lawAnswer cs #[.int .i64 0, .int .i64 0, .bool false, .int .i64 0, .int .i64 5, (.slice (some ⟨w10.heap.size, 0, none⟩) 1 1), .int .i64 0, .int .i64 0, .int .i64 0, .int .i64 0, .int .i64 0, .int .i64 0, .int .i64 0, .bool false, .int .i64 0, .int .i64 0, .int .i64 0, .int .i64 0, .slice none 0 0, .slice none 0 0, .slice none 0 0, .slice none 0 0, .int .i64 0, .int .i64 0, .int .i64 0, .int .i64 0, .int .i64 0, .int .i64 0, .int .i64 0, .slice none 0 0, .int .i64 0, .bool false, .int .i64 0, .int .i64 0, .int .i64 0, .bool false, .bool false, .int .i64 0, .int .i64 0, .int .i64 0, .slice none 0 0, .int .i64 0, .int .i64 0, .int .i64 0, .slice none 0 0, .slice none 0 0, .bool false, .slice none 0 0, .slice none 0 0, .int .i64 0, .int .i64 0, .slice none 0 0] _ 0 0 5 (some ⟨w10.heap.size, 0, none⟩) 1 1 (w10.alloc (.cells x7.cells.toArray 67)) hGI ⟨rfl, rfl, rfl, rfl, rfl⟩
  have hxq : Ext Nothing w10 (w10.alloc (.cells x7.cells.toArray 67)) := Ext.auto
  have hBq := Blk.new w10 67 x7.cells.toArray
  have hqa : w10.heap.size ≠ a := fun e => by obtain ⟨mt, h9⟩ := hL7.blk; have h8 := h9.lt; omega
  go_upto_region 16 with (first | go_skip | go_guarded | ((with_reducible refine isLd 51 rfl ?_); refine wpList_load_blk rfl 51 _ rfl STMsg g rfl cs hG hGz ?_) | ((with_reducible refine isBd 67 rfl ?_); refine wpList_build rfl _ _ rfl x7.cells.toArray (by kernel_rfl) ?_) | ((with_reducible refine isBs 43 rfl ?_); refine wpList_slice1 rfl 43 _ rfl SRAllocG x7.cells.toArray rfl rfl ?_) | ((with_reducible refine isBd 53 rfl ?_); refine wpList_build rfl _ _ rfl #[.int .i64 0, .int .i64 0, .bool false, .int .i64 0, .int .i64 5, (.slice (some ⟨w10.heap.size, 0, none⟩) 1 1), .int .i64 0, .int .i64 0, .int .i64 0, .int .i64 0, .int .i64 0, .int .i64 0, .int .i64 0, .bool false, .int .i64 0, .int .i64 0, .int .i64 0, .int .i64 0, .slice none 0 0, .slice none 0 0, .slice none 0 0, .slice none 0 0, .int .i64 0, .int .i64 0, .int .i64 0, .int .i64 0, .int .i64 0, .int .i64 0, .int .i64 0, .slice none 0 0, .int .i64 0, .bool false, .int .i64 0, .int .i64 0, .int .i64 0, .bool false, .bool false, .int .i64 0, .int .i64 0, .int .i64 0, .slice none 0 0, .int .i64 0, .int .i64 0, .int .i64 0, .slice none 0 0, .slice none 0 0, .bool false, .slice none 0 0, .slice none 0 0, .int .i64 0, .int .i64 0, .slice none 0 0] (by kernel_rfl) ?_) | (go_at_call 12; (with_reducible refine hAN.mono ?_); rintro e w11 ⟨cs9, rfl, hI9, h459, hx9⟩) | (go_at_call 14; (refine (lwTake (l := [x7]) ((hL7.e0 hxq).e0 hx9) hB8 (by omega) hI9 (show In64 1 by unfold In64; omega) h459 ((slOne hBq).ext0 hx9) (by omega) (fun q e _ => by have e9 : w10.heap.size = q := (by simpa using e); rw [← e9]; exact hqa) (fun x e => by rw [List.mem_singleton.1 e]; show In64 7; unfold In64; omega) t8).mono ?_); rintro e w12 ⟨rfl, hL8, hx8⟩))
  clear hG hGz hGI p16 p2 hAN h459 hI9 hxq hBq hqa t1 t2 t3 t4 t5 t6 t7 t8
  have r8 : Ag.running ⟨3, 1, false, 6, 5, 14, 1, 1, [(0, 0), (1, 6), (0, 0), (0, 0), (0, 0), (0, 0), (0, 0), (0, 0)], [(7, (x7, 2))], 2, 0⟩ = [x7] := rfl
  have r9 : Ag.running ⟨3, 1, false, 6, 5, 14, 1, 1, [(0, 0), (1, 6), (0, 0), (0, 0), (0, 0), (0, 0), (0, 0), (0, 0)], [(7, (x7, 3))], 2, 0⟩ = [] := rfl
  go_wp2_with (first | go_skip | go_guarded | (go_at_call 11; (with_reducible refine (lwRun 1 hL8 (by decide) r8 rfl).mono ?_); rintro e w13 ⟨A13, c13, rfl, hs13, hx13⟩; have hL8b := hL8.e0 hx13) | (go_at_call 11; (with_reducible refine (lwRun 1 hL8b (by decide) r8 rfl).mono ?_); rintro e w14 ⟨A14, c14, rfl, hs14, hx14⟩; have hL8c := hL8b.e0 hx14; obtain ⟨_, q, off, rfl, hce⟩ := hs14.get (Ext.refl _ _) (k := 0) (by decide); have k0 : w14.cell? ⟨q, off, none⟩ = some (.int .i64 7) := (by have h9 : w14.cell? ⟨q, off + 0 * 11 + 0, none⟩ = some (.int .i64 7) := hce 0 _ rfl; simpa using h9)) | (go_at_call 15; (with_reducible refine (lwExit 7 false hL8c (show In64 7 by unfold In64; omega) tk8).mono ?_); rintro e w15 ⟨rfl, hL9, hx15⟩) | (go_at_call 15; (with_reducible refine (lwExit 7 false hL9 (show In64 7 by unfold In64; omega) tk9).mono ?_); rintro e w16 ⟨rfl, hL10, hx16⟩) | (go_at_call 11; (with_reducible refine (lwRun 0 hL10 (by decide) r9 rfl).mono ?_); rintro e w17 ⟨A17, c17, rfl, hs17, hx17⟩))
  go_ret
  exact ⟨rfl, (hL10.e0 hx17).ext⟩
end Go.Proofs.YtockcifkphfnlaaGreatDoor
