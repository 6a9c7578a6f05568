/- Parts of the proof: RefSl RefS RefL RefU -/
import Derived.Test.YtlpfcmnnmdhaoaaGreatQ10
import Derived.Test.YtlpfcmnnmdhaoaaGreatQ05
import Derived.StillTailTactics
import Derived.Deep.CutRange
import Derived.Test.YtlpfcmnnmdhaoaaGreatQ02
namespace Go.Proofs.YtlpfcmnnmdhaoaaGreat
set_option linter.unusedVariables false
set_option linter.unusedSimpArgs false
set_option linter.unusedSectionVars false
section
open Go.RowKit
def slRow (p : GroupD × Nat) : List (Int × Int) := (List.range (countF p.1)).map (fun i : Nat => ((p.2 : Int), (i : Int)))
def slPre (gs : List GroupD) (g : Nat) : List (Int × Int) := (gs.zipIdx.take g).flatMap slRow
def rowPre (g k : Nat) : List (Int × Int) := (List.range k).map (fun i : Nat => ((g : Int), (i : Int)))
def cntR (l : List AllocD) (j : JobD) (xs : List (Int × Int)) : Nat := (xs.filter (Fsm.runB l j)).length
theorem cntR_app (l : List AllocD) (j : JobD) (xs ys : List (Int × Int)) : cntR l j (xs ++ ys) = cntR l j xs + cntR l j ys := by simp [cntR]
theorem cntR_le (l : List AllocD) (j : JobD) (xs : List (Int × Int)) : cntR l j xs ≤ xs.length := List.length_filter_le _ _
theorem slPre_all (j : JobD) {g : Nat} (h : j.groups.length ≤ g) : slPre j.groups g = Fsm.slotList j := by
 unfold slPre
 rw [List.take_of_length_le (by simpa using h)]; rfl
theorem slPre_next (gs : List GroupD) {g : Nat} (h : g < gs.length) : slPre gs (g + 1) = slPre gs g ++ rowPre g (countF gs[g]) := by
 unfold slPre
 rw [List.take_add_one, List.getElem?_eq_getElem (by simpa using h), List.flatMap_append]
 simp [slRow, rowPre]
theorem rowPre_next (g k : Nat) : rowPre g (k + 1) = rowPre g k ++ [((g : Int), (k : Int))] := by simp [rowPre, List.range_succ]
theorem rowPre_len (g k : Nat) : (rowPre g k).length = k := by simp [rowPre]
theorem count4 (g : GroupD) : countF g ≤ 4 := by unfold countF; omega
theorem slPre_len (gs : List GroupD) : ∀ g, g ≤ gs.length → (slPre gs g).length ≤ 4 * g
 | 0, _ => by simp [slPre]
 | g + 1, h => by
  rw [slPre_next gs (by omega), List.length_append, rowPre_len]
  have := slPre_len gs g (by omega)
  have := count4 (gs[g]'(by omega))
  omega
def slotsN (s : StoreD) (job : Int) : Nat × Nat := match Fsm.jobAt s job with
 | none => (0, 0)
 | some j => if j.ty == 3 then (0, 0) else ((Fsm.slotList j).length, cntR s.allocs j (Fsm.slotList j))
theorem filter_all {α : Type} (p : α → Bool) : ∀ l : List α, (l.length == (l.filter p).length) = l.all p
 | [] => rfl
 | x :: r => by
  rw [List.filter_cons, List.all_cons]
  cases hp : p x with
  | true => simp only [if_true, List.length_cons, Bool.true_and, ← filter_all p r]; simp
  | false =>
   simp only [Bool.false_eq_true, if_false, List.length_cons, Bool.false_and]
   have := List.length_filter_le p r
   simp only [beq_eq_false_iff_ne, ne_eq]
   omega
theorem slotsN_all {s : StoreD} {job : Int} {j : JobD} (h : Fsm.jobAt s job = some j) : ((slotsN s job).1 == (slotsN s job).2) = Fsm.allRun s j := by
 unfold slotsN Fsm.allRun
 rw [h]
 simp only []
 cases h3 : (j.ty == 3) with
 | true => simp
 | false => simp only [Bool.false_eq_true, if_false, Bool.false_or]; exact filter_all _ _
theorem runB_none {l : List AllocD} {j : JobD} {x : Int × Int} (h : l.find? (slotB j.id x.1 x.2) = none) : Fsm.runB l j x = false := by unfold Fsm.runB; rw [h]
theorem runB_some {l : List AllocD} {j : JobD} {x : Int × Int} {a : AllocD} (h : l.find? (slotB j.id x.1 x.2) = some a) : Fsm.runB l j x = (a.ver == j.ver && a.state == 2 && !a.stop) := by unfold Fsm.runB; rw [h]
theorem cntR_one (l : List AllocD) (j : JobD) (x : Int × Int) {b : Bool} (h : Fsm.runB l j x = b) : cntR l j [x] = if b then 1 else 0 := by
 unfold cntR
 rw [List.filter_cons, h]
 cases b <;> rfl
set_option maxRecDepth 20000 in
set_option maxHeartbeats 4000000 in
theorem refSlots (base : Nat) (s : StoreV) (job : Int) (w : World) (h : OwnS base w s) (hJ : s.jobs.length ≤ 1048576) (hA : s.allocs.length ≤ 1048576) :
  Calls Tryz.prog 80 #[.agg s.arr, .int .i64 job] w fun e w' => e = .returned (.tuple #[.int .i64 (slotsN s.data job).1, .int .i64 (slotsN s.data job).2]) ∧ Ext Nothing w w' := by
 have hx0 : Ext Nothing w (w.alloc (.cells s.arr 30)) := Ext.auto
 have hB0 : Blk (w.alloc (.cells s.arr 30)) w.heap.size 30 s.arr := Blk.new w _ _
 have hjl := Lib.hid h.jl
 have hal := Lib.hid h.al
 have hsj := h.slJ
 have hsa := h.slA
 have hnJ : s.nJ ≤ 67108864 := by have := h.jl; omega
 have hnA : s.nA ≤ 67108864 := by have := h.al; omega
 rcases idx_cases (fun x : JobV => x.1.id == job) s.jobs with ⟨hi, hf, _⟩ | ⟨i, x, hi, hxi, hp, hf, _⟩
 ·have H := Lib.hid (show slotsN s.data job = (0, 0) by unfold slotsN; rw [jobAt_none hf])
  have HI := Lib.hid hi
  clear hi hf
  go_enter Tryz.func80, Tryz.ntmps80
  go_wp2_with (first | go_skip | go_guarded | ((with_reducible refine isW ?_); refine wpList_load_blk rfl 30 _ rfl STStore w.heap.size rfl s.arr hB0 rfl ?_) | (go_at_call 51; (with_reducible refine (refAtJob s.AJ s.nJ s.cJ s.jobs job _ (hsj.ext0 hx0) hnJ _ _ _ _ _ _ _ _).mono ?_); rintro e w1 ⟨rfl, hx1⟩; rw [HI.out]))
  go_ret2
  exact ⟨by rw [H.out]; rfl, hx0.tr hx1⟩
 ·have hja := jobAt_data hf
  obtain ⟨hi1, hi2⟩ := List.getElem?_eq_some_iff.1 hxi
  obtain ⟨_, b, off, hAe, hce⟩ := hsj.get (Ext.refl Nothing w) (k := i) (by have := hjl.out; omega)
  rw [hi2] at hce
  have hk0 : (0 : Int) ≤ (i : Int) := by omega
  have hk1 : (i : Int) < s.nJ := by have := hjl.out; omega
  have hng : ¬ ((i : Int) < 0) := by omega
  obtain ⟨GA, gn, gc, hgv, hgo, hgl, hgb⟩ := h.j.grp x (List.mem_of_getElem? hxi)
  have hgs := Sl.of_own (f := GroupD.cells) (sz := 3) (fun _ => rfl) hgo hgl
  have HI := Lib.hid hi
  have HA := Lib.hid hAe
  clear hi hf hi2 hAe hxi hgo
  obtain ⟨⟨x0, x1, x2, x3, xg, x5, x6⟩, xv⟩ := x
  have hid : x0 = job := by simpa using hp
  subst hid
  change xv = _ at hgv
  subst hgv
  have HGL := Lib.hid (show gn = xg.length from hgl)
  have hgs : Sl w 3 GA gn (xg.map GroupD.cells) := hgs
  clear hp hgl
  cases h3 : (x1 == 3) with
  | true =>
   have H := Lib.hid (show slotsN s.data x0 = (0, 0) by unfold slotsN; rw [hja]; simp only []; rw [if_pos h3])
   clear hja
   go_enter Tryz.func80, Tryz.ntmps80
   go_wp2_with (first | go_skip | go_guarded | ((with_reducible refine isW ?_); refine wpList_load_blk rfl 30 _ rfl STStore w.heap.size rfl s.arr hB0 rfl ?_) | (go_at_call 51; (with_reducible refine (refAtJob s.AJ s.nJ s.cJ s.jobs x0 _ (hsj.ext0 hx0) hnJ _ _ _ _ _ _ _ _).mono ?_); rintro e w1 ⟨rfl, hx1⟩; rw [HI.out]; have hx2 := hx0.tr hx1; have c2 : w1.cell? ⟨w.heap.size, 2, none⟩ = some (.slice (some ⟨b, off, none⟩) s.nJ s.cJ) := (by rw [← HA.out]; exact (hB0.e0 hx1).cell 2); have k1 : w1.cell? ⟨b, off + i * 7 + 1, none⟩ = some (.int .i64 x1) := hx2.cell (hce 1 _ rfl) (fun e => e)))
   go_ret2
   exact ⟨by rw [H.out]; rfl, hx2⟩
  | false =>
   have H := Lib.hid (show slotsN s.data x0 = ((Fsm.slotList ⟨x0, x1, x2, x3, xg, x5, x6⟩).length, cntR s.allocs ⟨x0, x1, x2, x3, xg, x5, x6⟩ (Fsm.slotList ⟨x0, x1, x2, x3, xg, x5, x6⟩)) by unfold slotsN; rw [hja]; simp only []; rw [if_neg (by rw [h3]; exact Bool.false_ne_true)]; rfl)
   clear hja
   go_enter Tryz.func80, Tryz.ntmps80
   go_wp2_with (first | go_skip | go_guarded | ((with_reducible refine isW ?_); refine wpList_load_at rfl 39 _ rfl STJob b (off + i * 7) rfl #[.int .i64 x0, .int .i64 x1, .int .i64 x2, .int .i64 x3, .slice GA gn gc, .int .i64 x5, .bool x6] hce1 rfl ?_) | ((with_reducible refine isW ?_); refine wpList_load_blk rfl 30 _ rfl STStore w.heap.size rfl s.arr hB0 rfl ?_) | (go_at_call 51; (with_reducible refine (refAtJob s.AJ s.nJ s.cJ s.jobs x0 _ (hsj.ext0 hx0) hnJ _ _ _ _ _ _ _ _).mono ?_); rintro e w1 ⟨rfl, hx1⟩; rw [HI.out]; have hx2 := hx0.tr hx1; have hB1 := hB0.e0 hx1; have c2 : w1.cell? ⟨w.heap.size, 2, none⟩ = some (.slice (some ⟨b, off, none⟩) s.nJ s.cJ) := (by rw [← HA.out]; exact hB1.cell 2); have k1 : w1.cell? ⟨b, off + i * 7 + 1, none⟩ = some (.int .i64 x1) := hx2.cell (hce 1 _ rfl) (fun e => e); have hce1 : ∀ j u, (JobV.cells (⟨x0, x1, x2, x3, xg, x5, x6⟩, .slice GA gn gc))[j]? = some u → w1.cell? ⟨b, off + i * 7 + j, none⟩ = some u := fun j u hu => hx2.cell (hce j u hu) (fun e => e)))
   have hJW : Blk (w1.alloc (.cells #[.int .i64 x0, .int .i64 x1, .int .i64 x2, .int .i64 x3, .slice GA gn gc, .int .i64 x5, .bool x6] 39)) w1.heap.size 39 #[.int .i64 x0, .int .i64 x1, .int .i64 x2, .int .i64 x3, .slice GA gn gc, .int .i64 x5, .bool x6] := Blk.new w1 _ _
   have hBW := hB1.ext (S := Nothing) ((Ext.refl Nothing w1).alloc (.cells #[.int .i64 x0, .int .i64 x1, .int .i64 x2, .int .i64 x3, .slice GA gn gc, .int .i64 x5, .bool x6] 39)) (fun e => e)
   have hxW : Ext Nothing w (w1.alloc (.cells #[.int .i64 x0, .int .i64 x1, .int .i64 x2, .int .i64 x3, .slice GA gn gc, .int .i64 x5, .bool x6] 39)) := hx2.alloc _
   clear c2 k1 hce1 hB1 hB0 hx0 hx1 hx2
   generalize w1.heap.size = bj at hJW ⊢
   generalize (w1.alloc (.cells #[.int .i64 x0, .int .i64 x1, .int .i64 x2, .int .i64 x3, .slice GA gn gc, .int .i64 x5, .bool x6] 39)) = W at hJW hBW hxW ⊢
   go_loopw [8, 9, 10] (fun v8 v9 c wr => ∃ g : Nat, g ≤ gn ∧ c = .int .i64 g ∧ v8 = .int .i64 ((slPre xg g).length : Nat) ∧ v9 = .int .i64 (cntR s.allocs ⟨x0, x1, x2, x3, xg, x5, x6⟩ (slPre xg g) : Nat) ∧ Ext Nothing W wr) (fun _ _ c _ => gn - (intOf c).toNat)
   case atStart => exact ⟨0, Nat.zero_le _, rfl, rfl, rfl, Ext.refl _ _⟩
   case round =>
    obtain ⟨g, hg, rfl, rfl, rfl, hx⟩ := hrel
    obtain ⟨wo, rfl⟩ : ∃ wo : World, wo = wr := ⟨_, rfl⟩
    have hBo := hBW.e0 hx
    have hJo := hJW.e0 hx
    have j4 : wo.cell? ⟨bj, 4, none⟩ = some (.slice GA gn gc) := hJo.cell 4
    by_cases hlt : g < gn
    ·obtain ⟨hgn, b2, off2, hAe2, hce2⟩ := hgs.get (hxW.tr hx) hlt
     have hpn := slPre_next xg hgn
     have hpl := slPre_len xg g (by omega)
     have hg4 := count4 xg[g]
     generalize hG : xg[g] = G at hce2 hpn hg4
     obtain ⟨gc0, ⟨ga, gm⟩⟩ := G
     have hcF : countF ⟨gc0, ⟨ga, gm⟩⟩ = (min gc0 4).toNat := rfl
     rw [hAe2] at j4
     have HAe2 := Lib.hid hAe2
     have HPN := Lib.hid hpn
     have HLT := Lib.hid hlt
     have hgn1 : (g : Int) < gn := by omega
     have hg0 : (0 : Int) ≤ (g : Int) := by omega
     have hgm : gn ≤ 1048576 := hgb
     clear hAe2 hpn hG
     go_wp2
     go_loopw [8, 9, 11] (fun v8 v9 c wr => ∃ k : Nat, k ≤ countF ⟨gc0, ⟨ga, gm⟩⟩ ∧ c = .int .i64 k ∧ v8 = .int .i64 ((slPre xg g).length + k : Nat) ∧ v9 = .int .i64 (cntR s.allocs ⟨x0, x1, x2, x3, xg, x5, x6⟩ (slPre xg g) + cntR s.allocs ⟨x0, x1, x2, x3, xg, x5, x6⟩ (rowPre g k) : Nat) ∧ Ext Nothing wo wr) (fun _ _ c _ => 4 - (intOf c).toNat)
     case atStart => exact ⟨0, Nat.zero_le _, rfl, rfl, rfl, Ext.refl _ _⟩
     case round =>
      obtain ⟨k, hk, rfl, rfl, rfl, hxi⟩ := hrel
      have hBi := hBo.e0 hxi
      have hJi := hJo.e0 hxi
      have m4 : wr.cell? ⟨bj, 4, none⟩ = some (.slice (some ⟨b2, off2, none⟩) gn gc) := hxi.c0 j4
      have g0 : wr.cell? ⟨b2, off2 + g * 3, none⟩ = some (.int .i64 gc0) := hxi.cell (hce2 0 _ rfl) (fun e => e)
      have hwi : Ext Nothing w wr := (hxW.tr hx).tr hxi
      have hcn : cntR s.allocs ⟨x0, x1, x2, x3, xg, x5, x6⟩ (slPre xg g) + cntR s.allocs ⟨x0, x1, x2, x3, xg, x5, x6⟩ (rowPre g k) ≤ 16777216 := by
       have e1 := cntR_le s.allocs ⟨x0, x1, x2, x3, xg, x5, x6⟩ (slPre xg g)
       have e2 := cntR_le s.allocs ⟨x0, x1, x2, x3, xg, x5, x6⟩ (rowPre g k)
       rw [rowPre_len] at e2
       omega
      by_cases hkl : k < countF ⟨gc0, ⟨ga, gm⟩⟩
      ·have t1 : decide ((k : Int) < gc0) = true := by simp; omega
       have t2 : decide ((k : Int) < 4) = true := by simp; omega
       have hrn := rowPre_next g k
       have HRN := Lib.hid hrn
       have HK := Lib.hid hkl
       have HC := Lib.hid hcF
       clear hrn hcF hk
       rcases idx_cases (slotB x0 g k) s.allocs with ⟨hq, hqf, _⟩ | ⟨p, a, hq, hpa, _, hqf, _⟩
       ·have HQ := Lib.hid hq
        have hr := runB_none (j := ⟨x0, x1, x2, x3, xg, x5, x6⟩) (x := ((g : Int), (k : Int))) hqf
        have HR := Lib.hid hr
        clear hq hqf hr
        go_wp2_with (first | go_skip | go_guarded | ((with_reducible refine isW ?_); refine wpList_load_blk rfl 30 _ rfl STStore w.heap.size rfl s.arr hBi rfl ?_) | (go_at_call 11; (with_reducible refine (refSlot s.AA s.nA s.cA s.allocs x0 (g : Int) (k : Int) _ (hsa.ext0 hwi) hnA _ _ _ _ _ _ _ _).mono ?_); rintro e w2 ⟨rfl, hx2⟩; rw [HQ.out]))
        have HB := Lib.hid (show Fsm.runB s.allocs ⟨x0, x1, x2, x3, xg, x5, x6⟩ ((g : Int), (k : Int)) = false from HR.out)
        go_quiet (fail)
        have hd := (Ext.refl Nothing w2).drewN nq
        generalize w2.drewN nq = wq at hd ⊢
        go_wp2
        go_roundw
        case rel => exact ⟨k + 1, HK.out, by go_num, by simp; omega, by rw [HRN.out, cntR_app, cntR_one _ _ _ HB.out]; simp, hxi.trans (hx2.tr hd) (fun _ _ e => e)⟩
        case measure => have := HK.out; have := HC.out; simp [intOf]; omega
       ·have HQ := Lib.hid hq
        have hr := runB_some (j := ⟨x0, x1, x2, x3, xg, x5, x6⟩) (x := ((g : Int), (k : Int))) hqf
        obtain ⟨hp1, hp2⟩ := List.getElem?_eq_some_iff.1 hpa
        obtain ⟨_, b3, off3, hAe3, hce3⟩ := hsa.get (Ext.refl Nothing w) (k := p) (by have := hal.out; omega)
        rw [hp2] at hce3
        have hp0 : (0 : Int) ≤ (p : Int) := by omega
        have hpn : (p : Int) < s.nA := by have := hal.out; omega
        have hpg : decide ((0 : Int) ≤ (p : Int)) = true := by simp
        obtain ⟨a0, a1, a2, a3, a4, a5, a6, ⟨a7, a8⟩, a9, a10⟩ := a
        have HR := Lib.hid hr
        have HA3 := Lib.hid hAe3
        clear hq hqf hr hp2 hpa hAe3
        go_wp2_with (first | go_skip | go_guarded | ((with_reducible refine isW ?_); refine wpList_load_blk rfl 30 _ rfl STStore w.heap.size rfl s.arr hBi rfl ?_) | (go_at_call 11; (with_reducible refine (refSlot s.AA s.nA s.cA s.allocs x0 (g : Int) (k : Int) _ (hsa.ext0 hwi) hnA _ _ _ _ _ _ _ _).mono ?_); rintro e w2 ⟨rfl, hx2⟩; rw [HQ.out]; have hw2 : Ext Nothing w w2 := hwi.tr hx2; have n5 : w2.cell? ⟨w.heap.size, 5, none⟩ = some (.slice (some ⟨b3, off3, none⟩) s.nA s.cA) := (by rw [← HA3.out]; exact (hBi.e0 hx2).cell 5); have q2 : w2.cell? ⟨b3, off3 + p * 11 + 2, none⟩ = some (.int .i64 a2) := hw2.cell (hce3 2 _ rfl) (fun e => e); have q10 : w2.cell? ⟨b3, off3 + p * 11 + 10, none⟩ = some (.int .i64 a10) := hw2.cell (hce3 10 _ rfl) (fun e => e); have q9 : w2.cell? ⟨b3, off3 + p * 11 + 9, none⟩ = some (.bool a9) := hw2.cell (hce3 9 _ rfl) (fun e => e); have q5 : w2.cell? ⟨bj, 5, none⟩ = some (.int .i64 x5) := (hJi.e0 hx2).cell 5))
        cases z1 : (a2 == x5) with
        | false =>
         have HB := Lib.hid (show Fsm.runB s.allocs ⟨x0, x1, x2, x3, xg, x5, x6⟩ ((g : Int), (k : Int)) = false from HR.out.trans (by show (a2 == x5 && a10 == 2 && !a9) = false; rw [z1]; rfl))
         go_quiet (fail)
         have hd := (Ext.refl Nothing w2).drewN nq
         generalize w2.drewN nq = wq at hd ⊢
         go_wp2
         go_roundw
         case rel => exact ⟨k + 1, HK.out, by go_num, by simp; omega, by rw [HRN.out, cntR_app, cntR_one _ _ _ HB.out]; simp, hxi.trans (hx2.tr hd) (fun _ _ e => e)⟩
         case measure => have := HK.out; have := HC.out; simp [intOf]; omega
        | true =>
         cases z2 : (a10 == 2) with
         | false =>
          have HB := Lib.hid (show Fsm.runB s.allocs ⟨x0, x1, x2, x3, xg, x5, x6⟩ ((g : Int), (k : Int)) = false from HR.out.trans (by show (a2 == x5 && a10 == 2 && !a9) = false; rw [z1, z2]; rfl))
          go_quiet (fail)
          have hd := (Ext.refl Nothing w2).drewN nq
          generalize w2.drewN nq = wq at hd ⊢
          go_wp2
          go_roundw
          case rel => exact ⟨k + 1, HK.out, by go_num, by simp; omega, by rw [HRN.out, cntR_app, cntR_one _ _ _ HB.out]; simp, hxi.trans (hx2.tr hd) (fun _ _ e => e)⟩
          case measure => have := HK.out; have := HC.out; simp [intOf]; omega
         | true =>
          cases a9 with
          | true =>
           have HB := Lib.hid (show Fsm.runB s.allocs ⟨x0, x1, x2, x3, xg, x5, x6⟩ ((g : Int), (k : Int)) = false from HR.out.trans (by show (a2 == x5 && a10 == 2 && !true) = false; rw [z1, z2]; rfl))
           go_quiet (fail)
           have hd := (Ext.refl Nothing w2).drewN nq
           generalize w2.drewN nq = wq at hd ⊢
           go_wp2
           go_roundw
           case rel => exact ⟨k + 1, HK.out, by go_num, by simp; omega, by rw [HRN.out, cntR_app, cntR_one _ _ _ HB.out]; simp, hxi.trans (hx2.tr hd) (fun _ _ e => e)⟩
           case measure => have := HK.out; have := HC.out; simp [intOf]; omega
          | false =>
           have HB := Lib.hid (show Fsm.runB s.allocs ⟨x0, x1, x2, x3, xg, x5, x6⟩ ((g : Int), (k : Int)) = true from HR.out.trans (by show (a2 == x5 && a10 == 2 && !false) = true; rw [z1, z2]; rfl))
           go_quiet (fail)
           have hd := (Ext.refl Nothing w2).drewN nq
           generalize w2.drewN nq = wq at hd ⊢
           go_wp2
           go_roundw
           case rel => exact ⟨k + 1, HK.out, by go_num, by simp; omega, by rw [HRN.out, cntR_app, cntR_one _ _ _ HB.out]; simp; omega, hxi.trans (hx2.tr hd) (fun _ _ e => e)⟩
           case measure => have := HK.out; have := HC.out; simp [intOf]; omega
      ·have hke : k = countF ⟨gc0, ⟨ga, gm⟩⟩ := by omega
       have HKE := Lib.hid hke
       clear hke
       by_cases t1 : (k : Int) < gc0
       ·have t2 : decide ((k : Int) < 4) = false := by have := HKE.out; simp; omega
        have t1' : decide ((k : Int) < gc0) = true := by simpa using t1
        clear hcF
        go_wp2_with (first | go_skip | go_guarded)
        go_roundw
        case rel => exact ⟨g + 1, HLT.out, by go_num, by rw [HPN.out, List.length_append, rowPre_len, ← HKE.out], by rw [HPN.out, cntR_app, ← HKE.out], hx.tr hxi⟩
        case measure => have := HLT.out; simp [intOf]; omega
       ·have t1' : decide ((k : Int) < gc0) = false := by simpa using t1
        clear hcF
        go_wp2_with (first | go_skip | go_guarded)
        go_roundw
        case rel => exact ⟨g + 1, HLT.out, by go_num, by rw [HPN.out, List.length_append, rowPre_len, ← HKE.out], by rw [HPN.out, cntR_app, ← HKE.out], hx.tr hxi⟩
        case measure => have := HLT.out; simp [intOf]; omega
    ·have hge : slPre xg g = Fsm.slotList ⟨x0, x1, x2, x3, xg, x5, x6⟩ := slPre_all ⟨x0, x1, x2, x3, xg, x5, x6⟩ (by have := HGL.out; show xg.length ≤ g; omega)
     have HGE := Lib.hid hge
     have hgl2 : ¬ ((g : Int) < gn) := by omega
     clear hge
     go_wp2_with (first | go_skip | go_guarded)
     go_ret2
     exact ⟨by rw [H.out, HGE.out]; rfl, hxW.tr hx⟩
end
section
open Go.RowKit
def sysStep (t : StoreD) (j : JobD) : StoreD := if j.ty == 3 && !j.stopped then Fsm.eval t j.id else t
theorem sys_fold (s : StoreD) : Fsm.system s = s.jobs.foldl sysStep s := rfl
theorem sysStep_len (t : StoreD) (j : JobD) : (sysStep t j).evals.length ≤ t.evals.length + 1 := by
 unfold sysStep
 split
 ·exact Fsm.eval_len _ _
 ·omega
theorem OwnS.cs {base : Nat} {W : World} {s : StoreV} {A : Option Addr} {n c : Nat} {l : List EvalD} (h : OwnS base W ({ s with AE := A, nE := n, cE := c, evals := l } : StoreV)) : n = l.length := h.el
set_option maxRecDepth 20000 in
set_option maxHeartbeats 4000000 in
theorem refSystem (base : Nat) (s : StoreV) (w : World) (h : OwnS base w s) (hb : base ≤ w.heap.size) (hJ : s.jobs.length ≤ 1048576) (hE : s.evals.length ≤ 33554432) :
  Calls Tryz.prog 56 #[.agg s.arr] w fun e w' => ∃ s', e = .returned (.agg s'.arr) ∧ OwnS base w' s' ∧ s'.data = Fsm.system s.data ∧ SameE s s' ∧ Ext Nothing w w' := by
 have hx0 : Ext Nothing w ((w.alloc (.cells s.arr 30)).alloc (.cells #[.int .i64 0, .int .i64 0, .slice none 0 0, .slice none 0 0, .slice none 0 0, .slice none 0 0, .slice none 0 0, .slice none 0 0, .slice none 0 0] 30)) := Ext.auto
 have hB0 : Blk ((w.alloc (.cells s.arr 30)).alloc (.cells #[.int .i64 0, .int .i64 0, .slice none 0 0, .slice none 0 0, .slice none 0 0, .slice none 0 0, .slice none 0 0, .slice none 0 0, .slice none 0 0] 30)) w.heap.size 30 s.arr := (Blk.new w _ _).e0 Ext.auto
 have hR0 : Blk ((w.alloc (.cells s.arr 30)).alloc (.cells #[.int .i64 0, .int .i64 0, .slice none 0 0, .slice none 0 0, .slice none 0 0, .slice none 0 0, .slice none 0 0, .slice none 0 0, .slice none 0 0] 30)) (w.heap.size + 1) 30 #[.int .i64 0, .int .i64 0, .slice none 0 0, .slice none 0 0, .slice none 0 0, .slice none 0 0, .slice none 0 0, .slice none 0 0, .slice none 0 0] := Blk.new' _ _ _ (by simp)
 have hjl := Lib.hid h.jl
 go_enter Tryz.func56, Tryz.ntmps56
 go_wp2
 generalize ((w.alloc (.cells s.arr 30)).alloc (.cells #[.int .i64 0, .int .i64 0, .slice none 0 0, .slice none 0 0, .slice none 0 0, .slice none 0 0, .slice none 0 0, .slice none 0 0, .slice none 0 0] 30)) = W at hx0 hB0 hR0 ⊢
 have h0 := h.keep0 hx0
 have hzW : w.heap.size + 1 < W.heap.size := hR0.lt
 go_loopw [3] (fun c wr => ∃ t : Nat, t ≤ s.nJ ∧ c = .int .i64 t ∧ ∃ A n ca l, OwnS base wr ({ s with AE := A, nE := n, cE := ca, evals := l } : StoreV) ∧ ({ s with AE := A, nE := n, cE := ca, evals := l } : StoreV).data = ((s.jobs.map (·.1)).take t).foldl sysStep s.data ∧ l.length ≤ s.evals.length + t ∧
  Blk wr w.heap.size 30 ({ s with AE := A, nE := n, cE := ca, evals := l } : StoreV).arr ∧ Blk wr (w.heap.size + 1) 30 #[.int .i64 0, .int .i64 0, .slice none 0 0, .slice none 0 0, .slice none 0 0, .slice none 0 0, .slice none 0 0, .slice none 0 0, .slice none 0 0] ∧ Ext Nothing w wr) (fun c _ => s.nJ - (intOf c).toNat)
 case atStart => exact ⟨0, Nat.zero_le _, rfl, s.AE, s.nE, s.cE, s.evals, h0, rfl, Nat.le_refl _, hB0, hR0, hx0⟩
 case round =>
  obtain ⟨t, ht, rfl, A, n, ca, l, hO, hD, hL, hB, hR, hx⟩ := hrel
  have c2 : wr.cell? ⟨w.heap.size, 2, none⟩ = some (.slice s.AJ s.nJ s.cJ) := hB.cell 2
  have hzr : w.heap.size + 1 < wr.heap.size := hR.lt
  by_cases hlt : t < s.nJ
  ·have hsj : Sl wr 7 s.AJ s.nJ (s.jobs.map JobV.cells) := hO.slJ
   obtain ⟨hjn, b, off, hAe, hce⟩ := hsj.get (Ext.refl Nothing wr) hlt
   have hjm : t < (s.jobs.map (·.1)).length := by simpa using hjn
   have hst := foldl_take sysStep s.data (s.jobs.map (·.1)) t hjm
   rw [← hD, List.getElem_map] at hst
   have hle := sysStep_len ({ s with AE := A, nE := n, cE := ca, evals := l } : StoreV).data s.jobs[t].1
   generalize s.jobs[t] = y at hce hst hle
   obtain ⟨⟨y0, y1, y2, y3, yg, y5, y6⟩, yv⟩ := y
   rw [hAe] at c2
   have k1 : wr.cell? ⟨b, off + t * 7 + 1, none⟩ = some (.int .i64 y1) := hce 1 _ rfl
   have k6 : wr.cell? ⟨b, off + t * 7 + 6, none⟩ = some (.bool y6) := hce 6 _ rfl
   have k0 : wr.cell? ⟨b, off + t * 7, none⟩ = some (.int .i64 y0) := hce 0 _ rfl
   have hk0 : (0 : Int) ≤ (t : Int) := by omega
   have hk1 : (t : Int) < s.nJ := by omega
   have HT := Lib.hid hlt
   have HA := Lib.hid hAe
   have HL := Lib.hid hle
   have HS := Lib.hid hst
   have HD := Lib.hid hL
   clear hAe hst hle hL hD hjm
   cases hq : (y1 == 3 && !y6) with
   | false =>
    have hs1 := Lib.hid (HS.out.trans (show sysStep ({ s with AE := A, nE := n, cE := ca, evals := l } : StoreV).data ⟨y0, y1, y2, y3, yg, y5, y6⟩ = _ from if_neg (by rw [hq]; exact Bool.false_ne_true)))
    cases h1 : (y1 == 3) with
    | false =>
     go_wp2_with (first | go_skip | go_guarded)
     go_roundw
     case rel => exact ⟨t + 1, HT.out, by go_num, A, n, ca, l, hO, hs1.out.symm, by have := HD.out; omega, hB, hR, hx⟩
     case measure => have := HT.out; simp [intOf]; omega
    | true =>
     have h6 : y6 = true := by rw [h1] at hq; simpa using hq
     rw [h6] at k6
     go_wp2_with (first | go_skip | go_guarded)
     go_roundw
     case rel => exact ⟨t + 1, HT.out, by go_num, A, n, ca, l, hO, hs1.out.symm, by have := HD.out; omega, hB, hR, hx⟩
     case measure => have := HT.out; simp [intOf]; omega
   | true =>
    have hs1 := Lib.hid (HS.out.trans (show sysStep ({ s with AE := A, nE := n, cE := ca, evals := l } : StoreV).data ⟨y0, y1, y2, y3, yg, y5, y6⟩ = _ from if_pos hq))
    have hl1 := Lib.hid (show (sysStep ({ s with AE := A, nE := n, cE := ca, evals := l } : StoreV).data ⟨y0, y1, y2, y3, yg, y5, y6⟩).evals.length = (Fsm.eval ({ s with AE := A, nE := n, cE := ca, evals := l } : StoreV).data y0).evals.length from by unfold sysStep; rw [if_pos hq])
    have h1 : (y1 == 3) = true := by revert hq; cases (y1 == 3) <;> simp
    have h6 : y6 = false := by rw [h1] at hq; simpa using hq
    rw [h6] at k6
    have d0 : wr.cell? ⟨w.heap.size, 0, none⟩ = some (.int .i64 s.index) := hB.cell 0
    have d1 : wr.cell? ⟨w.heap.size, 1, none⟩ = some (.int .i64 s.next) := hB.cell 1
    have d3 : wr.cell? ⟨w.heap.size, 3, none⟩ = some (.slice s.AS s.nS s.cS) := hB.cell 3
    have d4 : wr.cell? ⟨w.heap.size, 4, none⟩ = some (.slice s.AN s.nN s.cN) := hB.cell 4
    have d5 : wr.cell? ⟨w.heap.size, 5, none⟩ = some (.slice s.AA s.nA s.cA) := hB.cell 5
    have d6 : wr.cell? ⟨w.heap.size, 6, none⟩ = some (.slice A n ca) := hB.cell 6
    have d7 : wr.cell? ⟨w.heap.size, 7, none⟩ = some (.slice s.AD s.nD s.cD) := hB.cell 7
    have d8 : wr.cell? ⟨w.heap.size, 8, none⟩ = some (.slice s.AX s.nX s.cX) := hB.cell 8
    go_wp2_with (first | go_skip | go_guarded)
    go_still_tail 7, (by kernel_rfl)
    have hd : Ext Nothing wr wr.drew := (Ext.refl _ _).drew
    change wpList _ _ _ _ _ wr.drew
    generalize wr.drew = wq at hd ⊢
    have hOq := hO.keep0 hd
    have hBq := hB.e0 hd
    have hRq := hR.e0 hd
    have hbq : base ≤ wq.heap.size := by have := hd.size; omega
    rw [← HA.out]
    go_wp2_with (first | (go_at_call 54; (with_reducible refine (refEval base ({ s with AE := A, nE := n, cE := ca, evals := l } : StoreV) y0 wq hOq hbq (by show s.jobs.length ≤ _; omega) (by show l.length < _; have := HD.out; omega)).mono ?_); rintro e w1 ⟨s2, rfl, hO2, hD2, ⟨A2, n2, c2', l2, rfl⟩, hx1⟩; have hB1 := hBq.e0 hx1; have hR1 := hRq.e0 hx1) | ((with_reducible refine isW ?_); refine wpList_store_blk rfl 30 _ _ rfl STStore w.heap.size rfl ({ s with AE := A2, nE := n2, cE := c2', evals := l2 } : StoreV).arr rfl hB1 rfl rfl rfl ?_; intro w2 hB2 hx2))
    have hx3 : Ext Nothing w w2 := ((hx.tr hd).tr hx1).trans hx2 (fun b hb e => absurd (show b = w.heap.size from e) (by omega))
    have hlen : l2.length ≤ s.evals.length + (t + 1) := by
     have e1 : l2.length = (Fsm.eval ({ s with AE := A, nE := n, cE := ca, evals := l } : StoreV).data y0).evals.length := congrArg (fun z : StoreD => z.evals.length) hD2
     have e2 := hl1.out
     have e3 := HL.out
     have e4 := HD.out
     have e5 : ({ s with AE := A, nE := n, cE := ca, evals := l } : StoreV).data.evals.length = l.length := rfl
     omega
    go_roundw
    case rel => exact ⟨t + 1, HT.out, by go_num, A2, n2, c2', l2, hO2.keep hx2 (Apart.one hB1 (by decide)), hD2.trans hs1.out.symm, hlen, hB2, hR1.ext hx2 (fun e => absurd (show w.heap.size + 1 = w.heap.size from e) (by omega)), hx3⟩
    case measure => have := HT.out; simp [intOf]; omega
  ·have hnl : ¬ ((t : Int) < s.nJ) := by omega
   have hal : (s.jobs.map (·.1)).take t = s.jobs.map (·.1) := List.take_of_length_le (by have := hjl.out; simp; omega)
   rw [hal] at hD
   have HD := Lib.hid hD
   clear hD hal
   go_wp2_with (first | go_skip | ((with_reducible refine isW ?_); refine wpList_load_blk rfl 30 _ rfl STStore w.heap.size rfl ({ s with AE := A, nE := n, cE := ca, evals := l } : StoreV).arr hB rfl ?_) | ((with_reducible refine isW ?_); refine wpList_store_blk rfl 30 _ _ rfl STStore (w.heap.size + 1) rfl ({ s with AE := A, nE := n, cE := ca, evals := l } : StoreV).arr rfl hR rfl rfl rfl ?_; intro w2 hR2 hx2))
   exact bodyPost_ret (results_cell rfl STStore (g := w.heap.size + 1) rfl hR2 rfl) rfl ⟨({ s with AE := A, nE := n, cE := ca, evals := l } : StoreV), rfl, hO.keep hx2 (Apart.one hR (by decide)), HD.out, ⟨A, n, ca, l, rfl⟩, hx.trans hx2 (fun b hb e => absurd (show b = w.heap.size + 1 from e) (by omega))⟩
end
section
open Go.RowKit
def SameA (s t : StoreV) : Prop := ∃ aL A n c l, aL.length = s.allocs.length ∧ t = ({ s with allocs := aL, AE := A, nE := n, cE := c, evals := l } : StoreV)
theorem lost_range (node : Int) (d : StoreD) (t : Nat) : (List.range (t + 1)).foldl (Fsm.lostStep node) d = Fsm.lostStep node ((List.range t).foldl (Fsm.lostStep node) d) t := by
 rw [List.range_succ, List.foldl_append]; rfl
theorem lost_no {node : Int} {d : StoreD} {t : Nat} {a : AllocD} (h : d.allocs[t]? = some a) (hc : (a.node == node && !overB a) = false) : Fsm.lostStep node d t = d := by
 unfold Fsm.lostStep; rw [h]; simp only []; rw [if_neg (by rw [hc]; exact Bool.false_ne_true)]
theorem lost_yes {node : Int} {d : StoreD} {t : Nat} {a : AllocD} (h : d.allocs[t]? = some a) (hc : (a.node == node && !overB a) = true) : Fsm.lostStep node d t = Fsm.eval { d with allocs := d.allocs.set t { a with state := 6 } } a.job := by
 unfold Fsm.lostStep; rw [h]; simp only []; rw [if_pos hc]
set_option maxRecDepth 20000 in
set_option maxHeartbeats 4000000 in
theorem refLost (base : Nat) (s : StoreV) (node : Int) (w : World) (h : OwnS base w s) (hb : base ≤ w.heap.size) (hJ : s.jobs.length ≤ 1048576) (hA : s.allocs.length ≤ 1048576) (hE : s.evals.length ≤ 33554432) :
  Calls Tryz.prog 57 #[.agg s.arr, .int .i64 node] w fun e w' => ∃ s', e = .returned (.agg s'.arr) ∧ OwnS base w' s' ∧ s'.data = Fsm.lost s.data node ∧ s'.evals.length ≤ s.evals.length + s.allocs.length ∧ SameA s s' ∧ Ext (fun b => (vA s).ownBlock = some b) w w' := by
 have hx0 : Ext Nothing w ((w.alloc (.cells s.arr 30)).alloc (.cells #[.int .i64 0, .int .i64 0, .slice none 0 0, .slice none 0 0, .slice none 0 0, .slice none 0 0, .slice none 0 0, .slice none 0 0, .slice none 0 0] 30)) := Ext.auto
 have hB0 : Blk ((w.alloc (.cells s.arr 30)).alloc (.cells #[.int .i64 0, .int .i64 0, .slice none 0 0, .slice none 0 0, .slice none 0 0, .slice none 0 0, .slice none 0 0, .slice none 0 0, .slice none 0 0] 30)) w.heap.size 30 s.arr := (Blk.new w _ _).e0 Ext.auto
 have hR0 : Blk ((w.alloc (.cells s.arr 30)).alloc (.cells #[.int .i64 0, .int .i64 0, .slice none 0 0, .slice none 0 0, .slice none 0 0, .slice none 0 0, .slice none 0 0, .slice none 0 0, .slice none 0 0] 30)) (w.heap.size + 1) 30 #[.int .i64 0, .int .i64 0, .slice none 0 0, .slice none 0 0, .slice none 0 0, .slice none 0 0, .slice none 0 0, .slice none 0 0, .slice none 0 0] := Blk.new' _ _ _ (by simp)
 have hal := Lib.hid h.al
 have hnA : s.nA ≤ 1048576 := by have := h.al; omega
 have hSw : ∀ b, (vA s).ownBlock = some b → b < w.heap.size := fun b hb => own_lt h.a hb
 go_enter Tryz.func57, Tryz.ntmps57
 go_wp2
 generalize ((w.alloc (.cells s.arr 30)).alloc (.cells #[.int .i64 0, .int .i64 0, .slice none 0 0, .slice none 0 0, .slice none 0 0, .slice none 0 0, .slice none 0 0, .slice none 0 0, .slice none 0 0] 30)) = W at hx0 hB0 hR0 ⊢
 have h0 := h.keep0 hx0
 have hzW : w.heap.size + 1 < W.heap.size := hR0.lt
 have hxM : Ext (fun b => (vA s).ownBlock = some b) w W := hx0.mono (fun _ _ e => e.elim)
 go_loopw [5] (fun c wr => ∃ t : Nat, t ≤ s.nA ∧ c = .int .i64 t ∧ ∃ aL A n ca l, aL.length = s.nA ∧ OwnS base wr ({ s with allocs := aL, AE := A, nE := n, cE := ca, evals := l } : StoreV) ∧ ({ s with allocs := aL, AE := A, nE := n, cE := ca, evals := l } : StoreV).data = (List.range t).foldl (Fsm.lostStep node) s.data ∧ l.length ≤ s.evals.length + t ∧
  Blk wr w.heap.size 30 ({ s with allocs := aL, AE := A, nE := n, cE := ca, evals := l } : StoreV).arr ∧ Blk wr (w.heap.size + 1) 30 #[.int .i64 0, .int .i64 0, .slice none 0 0, .slice none 0 0, .slice none 0 0, .slice none 0 0, .slice none 0 0, .slice none 0 0, .slice none 0 0] ∧ Ext (fun b => (vA s).ownBlock = some b) w wr) (fun c _ => s.nA - (intOf c).toNat)
 case atStart => exact ⟨0, Nat.zero_le _, rfl, s.allocs, s.AE, s.nE, s.cE, s.evals, h.al.symm, h0, rfl, Nat.le_refl _, hB0, hR0, hxM⟩
 case round =>
  obtain ⟨t, ht, rfl, aL, A, n, ca, l, hla, hO, hD, hL, hB, hR, hx⟩ := hrel
  have c5 : wr.cell? ⟨w.heap.size, 5, none⟩ = some (.slice s.AA s.nA s.cA) := hB.cell 5
  have hzr : w.heap.size + 1 < wr.heap.size := hR.lt
  by_cases hlt : t < s.nA
  ·have htl : t < aL.length := by omega
   have hst := lost_range node s.data t
   rw [← hD] at hst
   have hy : aL[t]? = some aL[t] := List.getElem?_eq_getElem htl
   generalize aL[t] = y at hy
   obtain ⟨y0, y1, y2, y3, y4, y5, y6, ⟨y7, y8⟩, y9, y10⟩ := y
   obtain ⟨g, cur, hAe0, hob, hgb, _, hce, hput⟩ := hO.putA hy
   have hAe : s.AA = some ⟨g, 0, none⟩ := hAe0
   have hk1 : (t : Int) < s.nA := by omega
   have hg0 : g ≠ w.heap.size := fun e => Blk.ne (e ▸ hgb) hB (by decide) rfl
   rw [hAe] at c5
   have k5 : wr.cell? ⟨g, t * 11 + 5, none⟩ = some (.int .i64 y5) := hce 5 _ rfl
   have k10 : wr.cell? ⟨g, t * 11 + 10, none⟩ = some (.int .i64 y10) := hce 10 _ rfl
   have hk0 : (0 : Int) ≤ (t : Int) := by omega
   have HT := Lib.hid hlt
   have HA := Lib.hid hAe
   have HS := Lib.hid hst
   have HD := Lib.hid hL
   have HY := Lib.hid hy
   have HL := Lib.hid hla
   clear hAe hAe0 hst hL hD htl hy hla
   cases hq : (y5 == node && !overB ⟨y0, y1, y2, y3, y4, y5, y6, ⟨y7, y8⟩, y9, y10⟩) with
   | false =>
    have hs1 := Lib.hid (HS.out.trans (lost_no (d := ({ s with allocs := aL, AE := A, nE := n, cE := ca, evals := l } : StoreV).data) HY.out hq))
    cases h1 : (y5 == node) with
    | false =>
     go_wp2_with (first | go_skip | go_guarded)
     go_roundw
     case rel => exact ⟨t + 1, HT.out, by go_num, aL, A, n, ca, l, HL.out, hO, hs1.out.symm, by have := HD.out; omega, hB, hR, hx⟩
     case measure => have := HT.out; simp [intOf]; omega
    | true =>
     have h6 : decide (y10 < 3) = false := by rw [h1] at hq; simp [overB] at hq; simp; omega
     go_wp2_with (first | go_skip | go_guarded)
     go_roundw
     case rel => exact ⟨t + 1, HT.out, by go_num, aL, A, n, ca, l, HL.out, hO, hs1.out.symm, by have := HD.out; omega, hB, hR, hx⟩
     case measure => have := HT.out; simp [intOf]; omega
   | true =>
    have hs1 := Lib.hid (HS.out.trans (lost_yes (d := ({ s with allocs := aL, AE := A, nE := n, cE := ca, evals := l } : StoreV).data) HY.out hq))
    have h1 : (y5 == node) = true := by revert hq; cases (y5 == node) <;> simp
    have h6 : decide (y10 < 3) = true := by rw [h1] at hq; simp [overB] at hq; simp; omega
    have hO5 : OwnS base (wr.setCell ⟨g, t * 11 + 10, none⟩ (.int .i64 6)) ({ s with allocs := aL.set t ⟨y0, y1, y2, y3, y4, y5, y6, ⟨y7, y8⟩, y9, 6⟩, AE := A, nE := n, cE := ca, evals := l } : StoreV) := hput 10 (.int .i64 6) ⟨y0, y1, y2, y3, y4, y5, y6, ⟨y7, y8⟩, y9, 6⟩ (by decide) rfl
    have hs5 : Ext (fun b => b = g) wr (wr.setCell ⟨g, t * 11 + 10, none⟩ (.int .i64 6)) := Ext.set1 _ _ _ _
    have f10 : wr.frozen? ⟨g, t * 11 + 10, none⟩ = false := hgb.frozen _
    have hB5 : Blk (wr.setCell ⟨g, t * 11 + 10, none⟩ (.int .i64 6)) w.heap.size 30 ({ s with allocs := aL, AE := A, nE := n, cE := ca, evals := l } : StoreV).arr := hB.ext hs5 (fun e => hg0 e.symm)
    have hR5 := hR.ext hs5 (fun e => by have h2 := hSw _ hob; have h3 : w.heap.size + 1 = g := e; omega)
    have hx5 : Ext (fun b => (vA s).ownBlock = some b) w (wr.setCell ⟨g, t * 11 + 10, none⟩ (.int .i64 6)) := hx.setCell (p := ⟨g, t * 11 + 10, none⟩) (.inr hob) _
    have d0 : (wr.setCell ⟨g, t * 11 + 10, none⟩ (.int .i64 6)).cell? ⟨w.heap.size, 0, none⟩ = some (.int .i64 s.index) := hB5.cell 0
    have d1 : (wr.setCell ⟨g, t * 11 + 10, none⟩ (.int .i64 6)).cell? ⟨w.heap.size, 1, none⟩ = some (.int .i64 s.next) := hB5.cell 1
    have d2 : (wr.setCell ⟨g, t * 11 + 10, none⟩ (.int .i64 6)).cell? ⟨w.heap.size, 2, none⟩ = some (.slice s.AJ s.nJ s.cJ) := hB5.cell 2
    have d3 : (wr.setCell ⟨g, t * 11 + 10, none⟩ (.int .i64 6)).cell? ⟨w.heap.size, 3, none⟩ = some (.slice s.AS s.nS s.cS) := hB5.cell 3
    have d4 : (wr.setCell ⟨g, t * 11 + 10, none⟩ (.int .i64 6)).cell? ⟨w.heap.size, 4, none⟩ = some (.slice s.AN s.nN s.cN) := hB5.cell 4
    have d5 : (wr.setCell ⟨g, t * 11 + 10, none⟩ (.int .i64 6)).cell? ⟨w.heap.size, 5, none⟩ = some (.slice (some ⟨g, 0, none⟩) s.nA s.cA) := by rw [← HA.out]; exact hB5.cell 5
    have d6 : (wr.setCell ⟨g, t * 11 + 10, none⟩ (.int .i64 6)).cell? ⟨w.heap.size, 6, none⟩ = some (.slice A n ca) := hB5.cell 6
    have d7 : (wr.setCell ⟨g, t * 11 + 10, none⟩ (.int .i64 6)).cell? ⟨w.heap.size, 7, none⟩ = some (.slice s.AD s.nD s.cD) := hB5.cell 7
    have d8 : (wr.setCell ⟨g, t * 11 + 10, none⟩ (.int .i64 6)).cell? ⟨w.heap.size, 8, none⟩ = some (.slice s.AX s.nX s.cX) := hB5.cell 8
    have e1 : (wr.setCell ⟨g, t * 11 + 10, none⟩ (.int .i64 6)).cell? ⟨g, t * 11 + 1, none⟩ = some (.int .i64 y1) := by
     have hi5 : (aL.set t ⟨y0, y1, y2, y3, y4, y5, y6, ⟨y7, y8⟩, y9, 6⟩)[t]? = some ⟨y0, y1, y2, y3, y4, y5, y6, ⟨y7, y8⟩, y9, 6⟩ := by rw [List.getElem?_set]; simp; have := HL.out; have := HT.out; omega
     obtain ⟨g', _, hg', _, _, _, hce', _⟩ := hO5.putA hi5
     have hgg : g' = g := by have h7 : s.AA = some ⟨g', 0, none⟩ := hg'; rw [HA.out] at h7; injection h7 with h7; injection h7 with h7; exact h7.symm
     subst hgg
     exact hce' 1 _ rfl
    go_wp2_with (first | go_skip | go_guarded)
    generalize (wr.setCell ⟨g, t * 11 + 10, none⟩ (.int .i64 6)) = w5 at hO5 hB5 hR5 hx5 d0 d1 d2 d3 d4 d5 d6 d7 d8 e1 ⊢
    clear hs5
    go_still_tail 7, (by kernel_rfl)
    have hd : Ext Nothing w5 w5.drew := (Ext.refl _ _).drew
    change wpList _ _ _ _ _ w5.drew
    generalize w5.drew = wq at hd ⊢
    have hOq := hO5.keep0 hd
    have hBq := hB5.e0 hd
    have hRq := hR5.e0 hd
    have hxq := hx5.trans hd (fun _ _ e => e.elim)
    have hbq : base ≤ wq.heap.size := by have := hxq.size; omega
    rw [← HA.out]
    go_wp2_with (first | (go_at_call 54; (with_reducible refine (refEval base ({ s with allocs := aL.set t ⟨y0, y1, y2, y3, y4, y5, y6, ⟨y7, y8⟩, y9, 6⟩, AE := A, nE := n, cE := ca, evals := l } : StoreV) y1 wq hOq hbq (by show s.jobs.length ≤ _; omega) (by show l.length < _; have := HD.out; omega)).mono ?_); rintro e w1 ⟨s2, rfl, hO2, hD2, ⟨A2, n2, c2', l2, rfl⟩, hx1⟩; have hB1 := hBq.e0 hx1; have hR1 := hRq.e0 hx1) | ((with_reducible refine isW ?_); refine wpList_store_blk rfl 30 _ _ rfl STStore w.heap.size rfl ({ s with allocs := aL.set t ⟨y0, y1, y2, y3, y4, y5, y6, ⟨y7, y8⟩, y9, 6⟩, AE := A2, nE := n2, cE := c2', evals := l2 } : StoreV).arr rfl hB1 rfl rfl rfl ?_; intro w2 hB2 hx2))
    have hx3 : Ext (fun b => (vA s).ownBlock = some b) w w2 := (hxq.trans hx1 (fun _ _ e => e.elim)).trans hx2 (fun b hb e => absurd (show b = w.heap.size from e) (by omega))
    have hlen : l2.length ≤ s.evals.length + (t + 1) := by
     have e1 : l2.length = (Fsm.eval ({ s with allocs := aL.set t ⟨y0, y1, y2, y3, y4, y5, y6, ⟨y7, y8⟩, y9, 6⟩, AE := A, nE := n, cE := ca, evals := l } : StoreV).data y1).evals.length := congrArg (fun z : StoreD => z.evals.length) hD2
     have e2 := Fsm.eval_len ({ s with allocs := aL.set t ⟨y0, y1, y2, y3, y4, y5, y6, ⟨y7, y8⟩, y9, 6⟩, AE := A, nE := n, cE := ca, evals := l } : StoreV).data y1
     have e4 := HD.out
     have e5 : ({ s with allocs := aL.set t ⟨y0, y1, y2, y3, y4, y5, y6, ⟨y7, y8⟩, y9, 6⟩, AE := A, nE := n, cE := ca, evals := l } : StoreV).data.evals.length = l.length := rfl
     omega
    go_roundw
    case rel => exact ⟨t + 1, HT.out, by go_num, aL.set t ⟨y0, y1, y2, y3, y4, y5, y6, ⟨y7, y8⟩, y9, 6⟩, A2, n2, c2', l2, by rw [List.length_set]; exact HL.out, hO2.keep hx2 (Apart.one hB1 (by decide)), hD2.trans hs1.out.symm, hlen, hB2, hR1.ext hx2 (fun e => absurd (show w.heap.size + 1 = w.heap.size from e) (by omega)), hx3⟩
    case measure => have := HT.out; simp [intOf]; omega
  ·have hnl : ¬ ((t : Int) < s.nA) := by omega
   have htt : t = s.allocs.length := by have := hal.out; omega
   have HD := Lib.hid (show ({ s with allocs := aL, AE := A, nE := n, cE := ca, evals := l } : StoreV).data = Fsm.lost s.data node from hD.trans (by rw [htt]; rfl))
   have HE := Lib.hid (show l.length ≤ s.evals.length + s.allocs.length from htt ▸ hL)
   have HL := Lib.hid (show aL.length = s.allocs.length from hla.trans hal.out)
   clear hD hal htt hL hla
   go_wp2_with (first | go_skip | ((with_reducible refine isW ?_); refine wpList_load_blk rfl 30 _ rfl STStore w.heap.size rfl ({ s with allocs := aL, AE := A, nE := n, cE := ca, evals := l } : StoreV).arr hB rfl ?_) | ((with_reducible refine isW ?_); refine wpList_store_blk rfl 30 _ _ rfl STStore (w.heap.size + 1) rfl ({ s with allocs := aL, AE := A, nE := n, cE := ca, evals := l } : StoreV).arr rfl hR rfl rfl rfl ?_; intro w2 hR2 hx2))
   exact bodyPost_ret (results_cell rfl STStore (g := w.heap.size + 1) rfl hR2 rfl) rfl ⟨({ s with allocs := aL, AE := A, nE := n, cE := ca, evals := l } : StoreV), rfl, hO.keep hx2 (Apart.one hR (by decide)), HD.out, HE.out, ⟨aL, A, n, ca, l, HL.out, rfl⟩, hx.trans hx2 (fun b hb e => absurd (show b = w.heap.size + 1 from e) (by omega))⟩
end
section
open Go.RowKit
def sumOk (a b : Int) : Bool := decide (0 ≤ a ∧ a ≤ 1152921504606846976 ∧ 0 ≤ b ∧ b ≤ 1152921504606846976 ∧ a + b ≤ 1152921504606846976)
def sumV (a b : Int) : Int := bif sumOk a b then a + b else 0
theorem sum_no {a b : Int} (h : ¬ (0 ≤ a ∧ a ≤ 1152921504606846976 ∧ 0 ≤ b ∧ b ≤ 1152921504606846976 ∧ a + b ≤ 1152921504606846976)) : sumOk a b = false ∧ sumV a b = 0 := by
 have h1 : sumOk a b = false := decide_eq_false h
 exact ⟨h1, by unfold sumV; rw [h1]; rfl⟩
theorem sum_ok {a b : Int} (h : 0 ≤ a ∧ a ≤ 1152921504606846976 ∧ 0 ≤ b ∧ b ≤ 1152921504606846976 ∧ a + b ≤ 1152921504606846976) : sumOk a b = true ∧ sumV a b = a + b := by
 have h1 : sumOk a b = true := decide_eq_true h
 exact ⟨h1, by unfold sumV; rw [h1]; rfl⟩
theorem add_sum (a b : ResD) : addF a b = if sumOk a.cpu b.cpu && sumOk a.mem b.mem then some ⟨a.cpu + b.cpu, a.mem + b.mem⟩ else none := by
 have e : (resB a most && resB b most && resB ⟨a.cpu + b.cpu, a.mem + b.mem⟩ most) = (sumOk a.cpu b.cpu && sumOk a.mem b.mem) := by
  rw [Bool.eq_iff_iff]
  simp only [resB, inB, sumOk, Bool.and_eq_true, decide_eq_true_eq]
  have hm : most = 1152921504606846976 := rfl
  constructor
  ·intro h; omega
  ·intro h; omega
 unfold addF
 rw [e]
set_option maxHeartbeats 2000000 in
theorem refSum (a b : Int) (w : World) : Calls Tryz.prog 49 #[.int .i64 a, .int .i64 b] w fun e w' => e = .returned (.tuple #[.int .i64 (sumV a b), .bool (sumOk a b)]) ∧ Ext Nothing w w' := by
 by_cases q0 : a < 0
 ·have e0 : decide (a < 0) = true := by simpa using q0
  obtain ⟨h1, h2⟩ := sum_no (a := a) (b := b) (by omega)
  have H1 := Lib.hid h1
  have H2 := Lib.hid h2
  clear h1 h2
  have hw : wrap64 (1152921504606846976 - b) = wrap64 (1152921504606846976 - b) := rfl
  go_enter Tryz.func49, Tryz.ntmps49
  go_wp2_with (first | go_skip | go_guarded)
  go_ret2
  exact ⟨by rw [H1.out, H2.out]; rfl, Ext.refl _ _⟩
 ·have e0 : decide (a < 0) = false := by simpa using q0
  by_cases q1 : 1152921504606846976 < a
  ·have e1 : decide (1152921504606846976 < a) = true := by simpa using q1
   obtain ⟨h1, h2⟩ := sum_no (a := a) (b := b) (by omega)
   have H1 := Lib.hid h1
   have H2 := Lib.hid h2
   clear h1 h2
   have hw : wrap64 (1152921504606846976 - b) = wrap64 (1152921504606846976 - b) := rfl
   go_enter Tryz.func49, Tryz.ntmps49
   go_wp2_with (first | go_skip | go_guarded)
   go_ret2
   exact ⟨by rw [H1.out, H2.out]; rfl, Ext.refl _ _⟩
  ·have e1 : decide (1152921504606846976 < a) = false := by simpa using q1
   by_cases q2 : b < 0
   ·have e2 : decide (b < 0) = true := by simpa using q2
    obtain ⟨h1, h2⟩ := sum_no (a := a) (b := b) (by omega)
    have H1 := Lib.hid h1
    have H2 := Lib.hid h2
    clear h1 h2
    have hw : wrap64 (1152921504606846976 - b) = wrap64 (1152921504606846976 - b) := rfl
    go_enter Tryz.func49, Tryz.ntmps49
    go_wp2_with (first | go_skip | go_guarded)
    go_ret2
    exact ⟨by rw [H1.out, H2.out]; rfl, Ext.refl _ _⟩
   ·have e2 : decide (b < 0) = false := by simpa using q2
    by_cases q3 : 1152921504606846976 < b
    ·have e3 : decide (1152921504606846976 < b) = true := by simpa using q3
     obtain ⟨h1, h2⟩ := sum_no (a := a) (b := b) (by omega)
     have H1 := Lib.hid h1
     have H2 := Lib.hid h2
     clear h1 h2
     have hw : wrap64 (1152921504606846976 - b) = wrap64 (1152921504606846976 - b) := rfl
     go_enter Tryz.func49, Tryz.ntmps49
     go_wp2_with (first | go_skip | go_guarded)
     go_ret2
     exact ⟨by rw [H1.out, H2.out]; rfl, Ext.refl _ _⟩
    ·have e3 : decide (1152921504606846976 < b) = false := by simpa using q3
     by_cases q4 : 1152921504606846976 - b < a
     ·have e4 : decide (1152921504606846976 - b < a) = true := by simpa using q4
      obtain ⟨h1, h2⟩ := sum_no (a := a) (b := b) (by omega)
      have H1 := Lib.hid h1
      have H2 := Lib.hid h2
      clear h1 h2
      have hw : wrap64 (1152921504606846976 - b) = 1152921504606846976 - b := by unfold wrap64; omega
      go_enter Tryz.func49, Tryz.ntmps49
      go_wp2_with (first | go_skip | go_guarded)
      go_ret2
      exact ⟨by rw [H1.out, H2.out]; rfl, Ext.refl _ _⟩
     ·have e4 : decide (1152921504606846976 - b < a) = false := by simpa using q4
      obtain ⟨h1, h2⟩ := sum_ok (a := a) (b := b) (by omega)
      have H1 := Lib.hid h1
      have H2 := Lib.hid h2
      clear h1 h2
      have hw : wrap64 (1152921504606846976 - b) = 1152921504606846976 - b := by unfold wrap64; omega
      have hw2 : wrap64 (a + b) = a + b := by unfold wrap64; omega
      go_enter Tryz.func49, Tryz.ntmps49
      go_wp2_with (first | go_skip | go_guarded)
      go_ret2
      exact ⟨by rw [H1.out, H2.out]; rfl, Ext.refl _ _⟩
set_option maxHeartbeats 2000000 in
theorem refNew (w : World) : Calls Tryz.prog 5 #[] w fun e w' => e = .returned (.agg #[.int .i64 0, .int .i64 1, .slice none 0 0, .slice none 0 0, .slice none 0 0, .slice none 0 0, .slice none 0 0, .slice none 0 0, .slice none 0 0]) ∧ Ext Nothing w w' := by
 go_enter Tryz.func5, Tryz.ntmps5
 go_wp2
 exact bodyPost_ret (results_cell rfl STStore (g := w.heap.size) rfl (Blk.new w _ _) rfl) rfl ⟨rfl, by (with_reducible repeat' first | assumption | exact Ext.refl _ _ | refine Ext.alloc ?_ _ | refine Ext.drew ?_ | refine Ext.drewN ?_ _ | refine xS ?_ (by simp only [World.size_alloc, World.size_setCell, World.size_drew] <;> omega) _ | refine Ext.tr ?_ (by assumption))⟩
theorem STRes2 : StructT Tryz.prog 41 2 := .of (by kernel_rfl)
set_option maxHeartbeats 4000000 in
theorem ref06Add (a b : ResD) (w : World) : Calls Tryz.prog 27 #[.agg #[.int .i64 a.cpu, .int .i64 a.mem], .agg #[.int .i64 b.cpu, .int .i64 b.mem]] w fun e w' => e = .returned (.tuple #[.agg #[.int .i64 (optR (addF a b)).cpu, .int .i64 (optR (addF a b)).mem], .bool (addF a b).isSome]) ∧ Ext Nothing w w' := by
 have hx0 : Ext Nothing w (((w.alloc (.cells #[.int .i64 a.cpu, .int .i64 a.mem] 41)).alloc (.cells #[.int .i64 b.cpu, .int .i64 b.mem] 41)).alloc (.cells #[.int .i64 0, .int .i64 0] 41)) := Ext.auto
 have hA0 : Blk (((w.alloc (.cells #[.int .i64 a.cpu, .int .i64 a.mem] 41)).alloc (.cells #[.int .i64 b.cpu, .int .i64 b.mem] 41)).alloc (.cells #[.int .i64 0, .int .i64 0] 41)) w.heap.size 41 #[.int .i64 a.cpu, .int .i64 a.mem] := (Blk.new w _ _).e0 Ext.auto
 have hB0 : Blk (((w.alloc (.cells #[.int .i64 a.cpu, .int .i64 a.mem] 41)).alloc (.cells #[.int .i64 b.cpu, .int .i64 b.mem] 41)).alloc (.cells #[.int .i64 0, .int .i64 0] 41)) (w.heap.size + 1) 41 #[.int .i64 b.cpu, .int .i64 b.mem] := (Blk.new' (w.alloc (.cells #[.int .i64 a.cpu, .int .i64 a.mem] 41)) _ _ (by simp)).e0 Ext.auto
 have hR0 : Blk (((w.alloc (.cells #[.int .i64 a.cpu, .int .i64 a.mem] 41)).alloc (.cells #[.int .i64 b.cpu, .int .i64 b.mem] 41)).alloc (.cells #[.int .i64 0, .int .i64 0] 41)) (w.heap.size + 1 + 1) 41 #[.int .i64 0, .int .i64 0] := Blk.new' _ _ _ (by simp)
 have hadd := add_sum a b
 go_enter Tryz.func27, Tryz.ntmps27
 go_upto_region 1 with fail
 generalize (((w.alloc (.cells #[.int .i64 a.cpu, .int .i64 a.mem] 41)).alloc (.cells #[.int .i64 b.cpu, .int .i64 b.mem] 41)).alloc (.cells #[.int .i64 0, .int .i64 0] 41)) = W at hx0 hA0 hB0 hR0 ⊢
 have a0 : W.cell? ⟨w.heap.size, 0, none⟩ = some (.int .i64 a.cpu) := hA0.cell 0
 have b0 : W.cell? ⟨w.heap.size + 1, 0, none⟩ = some (.int .i64 b.cpu) := hB0.cell 0
 have HADD := Lib.hid hadd
 clear hadd
 go_upto_region 2 with (first | go_skip | (go_at_call 49; (with_reducible refine (refSum a.cpu b.cpu W).mono ?_); rintro e w1 ⟨rfl, hx1⟩))
 have a1 : w1.cell? ⟨w.heap.size, 1, none⟩ = some (.int .i64 a.mem) := (hA0.e0 hx1).cell 1
 have b1 : w1.cell? ⟨w.heap.size + 1, 1, none⟩ = some (.int .i64 b.mem) := (hB0.e0 hx1).cell 1
 go_upto_region 3 with (first | go_skip | (go_at_call 49; (with_reducible refine (refSum a.mem b.mem w1).mono ?_); rintro e w2 ⟨rfl, hx2⟩))
 have hR2 := (hR0.e0 hx1).e0 hx2
 have hxw := (hx0.tr hx1).tr hx2
 have none_ : ∀ h : (sumOk a.cpu b.cpu && sumOk a.mem b.mem) = false, addF a b = none := fun h => by rw [HADD.out, if_neg (by rw [h]; exact Bool.false_ne_true)]
 cases h1 : sumOk a.cpu b.cpu with
 | false =>
  have HN := Lib.hid (none_ (by rw [h1]; rfl))
  clear none_
  go_wp2_with (first | go_skip | go_guarded | ((with_reducible refine isW ?_); refine wpList_store_blk rfl 41 _ _ rfl STRes2 (w.heap.size + 1 + 1) rfl #[.int .i64 0, .int .i64 0] rfl hR2 rfl rfl rfl ?_; intro w3 hR3 hx3))
  exact bodyPost_ret (results_cell_tmp rfl STRes2 (g := w.heap.size + 1 + 1) rfl hR3 rfl) rfl ⟨by rw [HN.out]; rfl, hxw.trans hx3 (fun b hb e => absurd (show b = w.heap.size + 1 + 1 from e) (by omega))⟩
 | true =>
  cases h2 : sumOk a.mem b.mem with
  | false =>
   have HN := Lib.hid (none_ (by rw [h1, h2]; rfl))
   clear none_
   go_wp2_with (first | go_skip | go_guarded | ((with_reducible refine isW ?_); refine wpList_store_blk rfl 41 _ _ rfl STRes2 (w.heap.size + 1 + 1) rfl #[.int .i64 0, .int .i64 0] rfl hR2 rfl rfl rfl ?_; intro w3 hR3 hx3))
   exact bodyPost_ret (results_cell_tmp rfl STRes2 (g := w.heap.size + 1 + 1) rfl hR3 rfl) rfl ⟨by rw [HN.out]; rfl, hxw.trans hx3 (fun b hb e => absurd (show b = w.heap.size + 1 + 1 from e) (by omega))⟩
  | true =>
   have HN := Lib.hid (show addF a b = some ⟨a.cpu + b.cpu, a.mem + b.mem⟩ by rw [HADD.out, if_pos (by rw [h1, h2]; rfl)])
   have v1 : sumV a.cpu b.cpu = a.cpu + b.cpu := by unfold sumV; rw [h1]; rfl
   have v2 : sumV a.mem b.mem = a.mem + b.mem := by unfold sumV; rw [h2]; rfl
   rw [v1, v2]
   clear none_
   go_wp2_with (first | go_skip | go_guarded | ((with_reducible refine isW ?_); refine wpList_store_blk rfl 41 _ _ rfl STRes2 (w.heap.size + 1 + 1) rfl #[.int .i64 (a.cpu + b.cpu), .int .i64 (a.mem + b.mem)] rfl hR2 rfl rfl rfl ?_; intro w3 hR3 hx3))
   exact bodyPost_ret (results_cell_tmp rfl STRes2 (g := w.heap.size + 1 + 1) rfl hR3 rfl) rfl ⟨by rw [HN.out]; rfl, hxw.trans hx3 (fun b hb e => absurd (show b = w.heap.size + 1 + 1 from e) (by omega))⟩
set_option maxHeartbeats 4000000 in
theorem ref06Fits (u a m : ResD) (w : World) : Calls Tryz.prog 96 #[.agg #[.int .i64 u.cpu, .int .i64 u.mem], .agg #[.int .i64 a.cpu, .int .i64 a.mem], .agg #[.int .i64 m.cpu, .int .i64 m.mem]] w fun e w' => e = .returned (.bool (fitsF u a m)) ∧ Ext Nothing w w' := by
 have hx0 : Ext Nothing w (((w.alloc (.cells #[.int .i64 u.cpu, .int .i64 u.mem] 41)).alloc (.cells #[.int .i64 a.cpu, .int .i64 a.mem] 41)).alloc (.cells #[.int .i64 m.cpu, .int .i64 m.mem] 41)) := Ext.auto
 have hU0 : Blk (((w.alloc (.cells #[.int .i64 u.cpu, .int .i64 u.mem] 41)).alloc (.cells #[.int .i64 a.cpu, .int .i64 a.mem] 41)).alloc (.cells #[.int .i64 m.cpu, .int .i64 m.mem] 41)) w.heap.size 41 #[.int .i64 u.cpu, .int .i64 u.mem] := (Blk.new w _ _).e0 Ext.auto
 have hA0 : Blk (((w.alloc (.cells #[.int .i64 u.cpu, .int .i64 u.mem] 41)).alloc (.cells #[.int .i64 a.cpu, .int .i64 a.mem] 41)).alloc (.cells #[.int .i64 m.cpu, .int .i64 m.mem] 41)) (w.heap.size + 1) 41 #[.int .i64 a.cpu, .int .i64 a.mem] := (Blk.new' (w.alloc (.cells #[.int .i64 u.cpu, .int .i64 u.mem] 41)) _ _ (by simp)).e0 Ext.auto
 have hM0 : Blk (((w.alloc (.cells #[.int .i64 u.cpu, .int .i64 u.mem] 41)).alloc (.cells #[.int .i64 a.cpu, .int .i64 a.mem] 41)).alloc (.cells #[.int .i64 m.cpu, .int .i64 m.mem] 41)) (w.heap.size + 1 + 1) 41 #[.int .i64 m.cpu, .int .i64 m.mem] := Blk.new' _ _ _ (by simp)
 have HF := Lib.hid (show fitsF u a m = fitsO (addF u a) m from rfl)
 obtain ⟨o, ho⟩ : ∃ o, addF u a = o := ⟨_, rfl⟩
 have HO := Lib.hid ho
 clear ho
 go_enter Tryz.func96, Tryz.ntmps96
 go_upto_region 1 with fail
 generalize (((w.alloc (.cells #[.int .i64 u.cpu, .int .i64 u.mem] 41)).alloc (.cells #[.int .i64 a.cpu, .int .i64 a.mem] 41)).alloc (.cells #[.int .i64 m.cpu, .int .i64 m.mem] 41)) = W at hx0 hU0 hA0 hM0 ⊢
 go_upto_region 2 with (first | go_skip | ((with_reducible refine isW ?_); refine wpList_load_blk rfl 41 _ rfl STRes2 w.heap.size rfl #[.int .i64 u.cpu, .int .i64 u.mem] hU0 rfl ?_) | ((with_reducible refine isW ?_); refine wpList_load_blk rfl 41 _ rfl STRes2 (w.heap.size + 1) rfl #[.int .i64 a.cpu, .int .i64 a.mem] hA0 rfl ?_) | (go_at_call 27; (with_reducible refine (ref06Add u a W).mono ?_); rintro e w1 ⟨rfl, hx1⟩; (rw [HO.out])))
 have hX1 : Blk (w1.alloc (.cells #[.int .i64 (optR o).cpu, .int .i64 (optR o).mem] 41)) w1.heap.size 41 #[.int .i64 (optR o).cpu, .int .i64 (optR o).mem] := Blk.new _ _ _
 have hxa : Ext Nothing w1 (w1.alloc (.cells #[.int .i64 (optR o).cpu, .int .i64 (optR o).mem] 41)) := Ext.auto
 have hM1 := (hM0.e0 hx1).e0 hxa
 have hxw := (hx0.tr hx1).tr hxa
 generalize w1.heap.size = X at hX1 ⊢
 generalize (w1.alloc (.cells #[.int .i64 (optR o).cpu, .int .i64 (optR o).mem] 41)) = w2 at hX1 hM1 hxw ⊢
 have m0 : w2.cell? ⟨w.heap.size + 1 + 1, 0, none⟩ = some (.int .i64 m.cpu) := hM1.cell 0
 have m1 : w2.cell? ⟨w.heap.size + 1 + 1, 1, none⟩ = some (.int .i64 m.mem) := hM1.cell 1
 cases o with
 | none =>
  have H := Lib.hid (show fitsF u a m = false by rw [HF.out, HO.out]; rfl)
  simp only [Option.isSome_none]
  go_wp2_with (first | go_skip | go_guarded)
  go_ret
  exact ⟨by rw [H.out]; rfl, hxw⟩
 | some r =>
  have H := Lib.hid (show fitsF u a m = (decide (r.cpu ≤ m.cpu) && decide (r.mem ≤ m.mem)) by rw [HF.out, HO.out]; rfl)
  have x0 : w2.cell? ⟨X, 0, none⟩ = some (.int .i64 r.cpu) := hX1.cell 0
  have x1 : w2.cell? ⟨X, 1, none⟩ = some (.int .i64 r.mem) := hX1.cell 1
  simp only [Option.isSome_some, optR, Option.getD_some]
  cases h1 : decide (r.cpu ≤ m.cpu) with
  | false =>
   have H2 := Lib.hid (H.out.trans (by rw [h1]; rfl : _ = false))
   go_wp2_with (first | go_skip | go_guarded)
   go_ret
   exact ⟨by rw [H2.out]; rfl, hxw⟩
  | true =>
   have H2 := Lib.hid (H.out.trans (by rw [h1]; rfl : _ = decide (r.mem ≤ m.mem)))
   go_wp2_with (first | go_skip | go_guarded)
   go_ret
   exact ⟨by rw [H2.out]; rfl, hxw⟩
end
end Go.Proofs.YtlpfcmnnmdhaoaaGreat
