/- Parts of the proof: RefK -/
import Derived.StillTailTactics
import Derived.Deep.RegionWith
import Derived.Test.YtlpfcmnnmdhaoaaGreatQ10
import Derived.Test.YtlpfcmnnmdhaoaaGreatQ11
import Derived.Test.YtlpfcmnnmdhaoaaGreatQ13
namespace Go.Proofs.YtlpfcmnnmdhaoaaGreat
set_option linter.unusedVariables false
set_option linter.unusedSimpArgs false
set_option linter.unusedSectionVars false
open Go.RowKit
def SameL (s t : StoreV) : Prop := ∃ dL A n c l, dL.length = s.deploys.length ∧ t = ({ s with deploys := dL, AS := A, nS := n, cS := c, stable := l } : StoreV)
theorem look_range (d : StoreD) (t : Nat) : (List.range (t + 1)).foldl Fsm.lookStep d = Fsm.lookStep ((List.range t).foldl Fsm.lookStep d) t := by
 rw [List.range_succ, List.foldl_append]; rfl
theorem look_none {s : StoreD} {i : Nat} {d : DepD} (h : s.deploys[i]? = some d) (hj : Fsm.jobAt s d.job = none) : Fsm.lookStep s i = s := by unfold Fsm.lookStep; rw [h]; simp only []; rw [hj]
theorem look_no {s : StoreD} {i : Nat} {d : DepD} {j : JobD} (h : s.deploys[i]? = some d) (hj : Fsm.jobAt s d.job = some j) (hc : (d.state == 1 && j.ver == d.ver && Fsm.allRun s j) = false) : Fsm.lookStep s i = s := by
 unfold Fsm.lookStep; rw [h]; simp only []; rw [hj]; simp only []; rw [if_neg (by rw [hc]; exact Bool.false_ne_true)]
theorem look_yes {s : StoreD} {i : Nat} {d : DepD} {j : JobD} (h : s.deploys[i]? = some d) (hj : Fsm.jobAt s d.job = some j) (hc : (d.state == 1 && j.ver == d.ver && Fsm.allRun s j) = true) : Fsm.lookStep s i = { s with deploys := s.deploys.set i { d with state := 2 }, stable := Fsm.putL JobD.id j s.stable } := by
 unfold Fsm.lookStep; rw [h]; simp only []; rw [hj]; simp only []; rw [if_pos hc]
set_option maxRecDepth 20000 in
set_option maxHeartbeats 4000000 in
theorem refLooked (base : Nat) (s : StoreV) (w : World) (h : OwnS base w s) (hb : base ≤ w.heap.size) (hJ : s.jobs.length ≤ 1048576) (hA : s.allocs.length ≤ 1048576) (hDl : s.deploys.length ≤ 1048576) (hS : s.stable.length ≤ 33554432) :
  Calls Tryz.prog 61 #[.agg s.arr] w fun e w' => ∃ s', e = .returned (.agg s'.arr) ∧ OwnS base w' s' ∧ s'.data = Fsm.looked s.data ∧ s'.stable.length ≤ s.stable.length + s.deploys.length ∧ SameL s s' ∧ Ext (fun b => (vD s).ownBlock = some b) w w' := by
 have hx0 : Ext Nothing w ((w.alloc (.cells s.arr 30)).alloc (.cells #[.int .i64 0, .int .i64 0, .slice none 0 0, .slice none 0 0, .slice none 0 0, .slice none 0 0, .slice none 0 0, .slice none 0 0, .slice none 0 0] 30)) := Ext.auto
 have hB0 : Blk ((w.alloc (.cells s.arr 30)).alloc (.cells #[.int .i64 0, .int .i64 0, .slice none 0 0, .slice none 0 0, .slice none 0 0, .slice none 0 0, .slice none 0 0, .slice none 0 0, .slice none 0 0] 30)) w.heap.size 30 s.arr := (Blk.new w _ _).e0 Ext.auto
 have hR0 : Blk ((w.alloc (.cells s.arr 30)).alloc (.cells #[.int .i64 0, .int .i64 0, .slice none 0 0, .slice none 0 0, .slice none 0 0, .slice none 0 0, .slice none 0 0, .slice none 0 0, .slice none 0 0] 30)) (w.heap.size + 1) 30 #[.int .i64 0, .int .i64 0, .slice none 0 0, .slice none 0 0, .slice none 0 0, .slice none 0 0, .slice none 0 0, .slice none 0 0, .slice none 0 0] := Blk.new' _ _ _ (by simp)
 have hdl := Lib.hid h.dl
 have hjl := Lib.hid h.jl
 have hnD : s.nD ≤ 1048576 := by have := h.dl; omega
 have hnJ : s.nJ ≤ 67108864 := by have := h.jl; omega
 have hSw : ∀ b, (vD s).ownBlock = some b → b < w.heap.size := fun b hb => own_lt h.d hb
 go_enter Tryz.func61, Tryz.ntmps61
 go_wp2
 generalize ((w.alloc (.cells s.arr 30)).alloc (.cells #[.int .i64 0, .int .i64 0, .slice none 0 0, .slice none 0 0, .slice none 0 0, .slice none 0 0, .slice none 0 0, .slice none 0 0, .slice none 0 0] 30)) = W at hx0 hB0 hR0 ⊢
 have h0 := h.keep0 hx0
 have hzW : w.heap.size + 1 < W.heap.size := hR0.lt
 have hxM : Ext (fun b => (vD s).ownBlock = some b) w W := hx0.mono (fun _ _ e => e.elim)
 go_loopw [3] (fun c wr => ∃ t : Nat, t ≤ s.nD ∧ c = .int .i64 t ∧ ∃ dL A n ca l, dL.length = s.nD ∧ OwnS base wr ({ s with deploys := dL, AS := A, nS := n, cS := ca, stable := l } : StoreV) ∧ ({ s with deploys := dL, AS := A, nS := n, cS := ca, stable := l } : StoreV).data = (List.range t).foldl Fsm.lookStep s.data ∧ l.length ≤ s.stable.length + t ∧
  Blk wr w.heap.size 30 ({ s with deploys := dL, AS := A, nS := n, cS := ca, stable := l } : StoreV).arr ∧ Blk wr (w.heap.size + 1) 30 #[.int .i64 0, .int .i64 0, .slice none 0 0, .slice none 0 0, .slice none 0 0, .slice none 0 0, .slice none 0 0, .slice none 0 0, .slice none 0 0] ∧ Ext (fun b => (vD s).ownBlock = some b) w wr) (fun c _ => s.nD - (intOf c).toNat)
 case atStart => exact ⟨0, Nat.zero_le _, rfl, s.deploys, s.AS, s.nS, s.cS, s.stable, h.dl.symm, h0, rfl, Nat.le_refl _, hB0, hR0, hxM⟩
 case round =>
  obtain ⟨t, ht, rfl, dL, A, n, ca, l, hla, hO, hD, hL, hB, hR, hx⟩ := hrel
  have c7 : wr.cell? ⟨w.heap.size, 7, none⟩ = some (.slice s.AD s.nD s.cD) := hB.cell 7
  have hzr : w.heap.size + 1 < wr.heap.size := hR.lt
  by_cases hlt : t < s.nD
  ·have htl : t < dL.length := by omega
   have hst := look_range s.data t
   rw [← hD] at hst
   have hy : dL[t]? = some dL[t] := List.getElem?_eq_getElem htl
   generalize dL[t] = y at hy
   obtain ⟨y0, y1, y2, y3⟩ := y
   obtain ⟨g, cur, hAe0, hob, hgb, _, hce, hput⟩ := hO.putD hy
   have hAe : s.AD = some ⟨g, 0, none⟩ := hAe0
   have hceD : ∀ j u, (DepD.cells ⟨y0, y1, y2, y3⟩)[j]? = some u → wr.cell? ⟨g, t * 4 + j, none⟩ = some u := hce
   have hk0 : (0 : Int) ≤ (t : Int) := by omega
   have hk1 : (t : Int) < s.nD := by omega
   have hsj : Sl wr 7 s.AJ s.nJ (s.jobs.map JobV.cells) := hO.slJ
   have hg0 : g ≠ w.heap.size := fun e => Blk.ne (e ▸ hgb) hB (by decide) rfl
   rw [hAe] at c7
   have HT := Lib.hid hlt
   have HA := Lib.hid hAe
   have HS := Lib.hid hst
   have HD := Lib.hid hL
   have HY := Lib.hid (show ({ s with deploys := dL, AS := A, nS := n, cS := ca, stable := l } : StoreV).data.deploys[t]? = some ⟨y0, y1, y2, y3⟩ from hy)
   have HL := Lib.hid hla
   clear hAe hAe0 hst hL hD htl hy hla
   have hxd : Ext Nothing wr (wr.alloc (.cells #[.int .i64 y0, .int .i64 y1, .int .i64 y2, .int .i64 y3] 97)) := Ext.auto
   have hBd : Blk (wr.alloc (.cells #[.int .i64 y0, .int .i64 y1, .int .i64 y2, .int .i64 y3] 97)) w.heap.size 30 ({ s with deploys := dL, AS := A, nS := n, cS := ca, stable := l } : StoreV).arr := hB.e0 hxd
   have hDd : Blk (wr.alloc (.cells #[.int .i64 y0, .int .i64 y1, .int .i64 y2, .int .i64 y3] 97)) wr.heap.size 97 #[.int .i64 y0, .int .i64 y1, .int .i64 y2, .int .i64 y3] := Blk.new _ _ _
   rcases idx_cases (fun x : JobV => x.1.id == y0) s.jobs with ⟨hi, hf, _⟩ | ⟨i, x, hi, hxi, hp, hf, _⟩
   ·have hs1 := Lib.hid (HS.out.trans (look_none (s := ({ s with deploys := dL, AS := A, nS := n, cS := ca, stable := l } : StoreV).data) HY.out (jobAt_none hf)))
    have HI := Lib.hid hi
    clear hi hf
    cases h2 : (y2 != 1) with
    | true =>
     go_wp2_with (first | go_skip | go_guarded | ((with_reducible refine isW ?_); refine wpList_load_at rfl 97 _ rfl STDeploy g (t * 4) rfl #[.int .i64 y0, .int .i64 y1, .int .i64 y2, .int .i64 y3] hceD rfl ?_) | ((with_reducible refine isW ?_); refine wpList_load_blk rfl 30 _ rfl STStore w.heap.size rfl ({ s with deploys := dL, AS := A, nS := n, cS := ca, stable := l } : StoreV).arr (show Blk _ _ 30 _ from by first | exact hB1 | exact hBd) rfl ?_) | (go_at_call 51; (with_reducible refine (refAtJob s.AJ s.nJ s.cJ s.jobs y0 _ (hsj.ext0 hxd) hnJ _ _ _ _ _ _ _ _).mono ?_); rintro e w1 ⟨rfl, hx1⟩; rw [HI.out]; have hB1 := hBd.e0 hx1; have hD1 := hDd.e0 hx1; have e0 : w1.cell? ⟨wr.heap.size, 0, none⟩ = some (.int .i64 y0) := hD1.cell 0; have e1 : w1.cell? ⟨wr.heap.size, 1, none⟩ = some (.int .i64 y1) := hD1.cell 1; have e2 : w1.cell? ⟨wr.heap.size, 2, none⟩ = some (.int .i64 y2) := hD1.cell 2; have hx01 : Ext Nothing wr w1 := hxd.tr hx1))
     go_quiet (fail)
     have hd := (Ext.refl Nothing w1).drewN nq
     generalize w1.drewN nq = wq at hd ⊢
     have hxe : Ext Nothing wr wq := hx01.tr hd
     go_wp2
     go_roundw
     case rel => exact ⟨t + 1, HT.out, by go_num, dL, A, n, ca, l, HL.out, hO.keep0 hxe, hs1.out.symm, by have := HD.out; omega, hB.e0 hxe, hR.e0 hxe, hx.trans hxe (fun _ _ e => e.elim)⟩
     case measure => have := HT.out; simp [intOf]; omega
    | false =>
     go_wp2_with (first | go_skip | go_guarded | ((with_reducible refine isW ?_); refine wpList_load_at rfl 97 _ rfl STDeploy g (t * 4) rfl #[.int .i64 y0, .int .i64 y1, .int .i64 y2, .int .i64 y3] hceD rfl ?_) | ((with_reducible refine isW ?_); refine wpList_load_blk rfl 30 _ rfl STStore w.heap.size rfl ({ s with deploys := dL, AS := A, nS := n, cS := ca, stable := l } : StoreV).arr (show Blk _ _ 30 _ from by first | exact hB1 | exact hBd) rfl ?_) | (go_at_call 51; (with_reducible refine (refAtJob s.AJ s.nJ s.cJ s.jobs y0 _ (hsj.ext0 hxd) hnJ _ _ _ _ _ _ _ _).mono ?_); rintro e w1 ⟨rfl, hx1⟩; rw [HI.out]; have hB1 := hBd.e0 hx1; have hD1 := hDd.e0 hx1; have e0 : w1.cell? ⟨wr.heap.size, 0, none⟩ = some (.int .i64 y0) := hD1.cell 0; have e1 : w1.cell? ⟨wr.heap.size, 1, none⟩ = some (.int .i64 y1) := hD1.cell 1; have e2 : w1.cell? ⟨wr.heap.size, 2, none⟩ = some (.int .i64 y2) := hD1.cell 2; have hx01 : Ext Nothing wr w1 := hxd.tr hx1))
     go_quiet (fail)
     have hd := (Ext.refl Nothing w1).drewN nq
     generalize w1.drewN nq = wq at hd ⊢
     have hxe : Ext Nothing wr wq := hx01.tr hd
     go_wp2
     go_roundw
     case rel => exact ⟨t + 1, HT.out, by go_num, dL, A, n, ca, l, HL.out, hO.keep0 hxe, hs1.out.symm, by have := HD.out; omega, hB.e0 hxe, hR.e0 hxe, hx.trans hxe (fun _ _ e => e.elim)⟩
     case measure => have := HT.out; simp [intOf]; omega
   ·have hja : Fsm.jobAt ({ s with deploys := dL, AS := A, nS := n, cS := ca, stable := l } : StoreV).data y0 = some x.1 := jobAt_data hf
    obtain ⟨hi1, hi2⟩ := List.getElem?_eq_some_iff.1 hxi
    obtain ⟨_, b, off, hAj, hcj⟩ := hsj.get (Ext.refl Nothing wr) (k := i) (by have := hjl.out; omega)
    rw [hi2] at hcj
    have hi0 : (0 : Int) ≤ (i : Int) := by omega
    have hiN : (i : Int) < s.nJ := by have := hjl.out; omega
    have hig : ¬ ((i : Int) < 0) := by omega
    have hgm := hO.j.grp x (List.mem_of_getElem? hxi)
    obtain ⟨GA, gn, gc, hgv, hgs, hgl, hgb2⟩ := hgm.sl
    have HI := Lib.hid hi
    have HAj := Lib.hid hAj
    have HXI := Lib.hid (List.mem_of_getElem? hxi)
    have HXJ := Lib.hid (show s.jobs[i] = x from hi2)
    clear hi hf hi2 hAj hxi hgm
    obtain ⟨⟨x0, x1, x2, x3, xg, x5, x6⟩, xv⟩ := x
    have hid0 : y0 = x0 := (show x0 = y0 by simpa using hp).symm
    subst hid0
    change xv = _ at hgv
    subst hgv
    have hgs : Sl wr 3 GA gn (xg.map GroupD.cells) := hgs
    have HGL := Lib.hid (show gn = xg.length from hgl)
    have HJA := Lib.hid hja
    clear hp hgl hja
    cases h2 : (y2 != 1) with
    | true =>
     have hs1 := Lib.hid (HS.out.trans (look_no (s := ({ s with deploys := dL, AS := A, nS := n, cS := ca, stable := l } : StoreV).data) HY.out HJA.out (by show (y2 == 1 && x5 == y1 && _) = false; rw [show (y2 == 1) = false from by simpa using h2]; rfl)))
     go_wp2_with (first | go_skip | go_guarded | ((with_reducible refine isW ?_); refine wpList_load_at rfl 97 _ rfl STDeploy g (t * 4) rfl #[.int .i64 y0, .int .i64 y1, .int .i64 y2, .int .i64 y3] hceD rfl ?_) | ((with_reducible refine isW ?_); refine wpList_load_blk rfl 30 _ rfl STStore w.heap.size rfl ({ s with deploys := dL, AS := A, nS := n, cS := ca, stable := l } : StoreV).arr (show Blk _ _ 30 _ from by first | exact hB1 | exact hBd) rfl ?_) | (go_at_call 51; (with_reducible refine (refAtJob s.AJ s.nJ s.cJ s.jobs y0 _ (hsj.ext0 hxd) hnJ _ _ _ _ _ _ _ _).mono ?_); rintro e w1 ⟨rfl, hx1⟩; rw [HI.out]; have hB1 := hBd.e0 hx1; have hD1 := hDd.e0 hx1; have e0 : w1.cell? ⟨wr.heap.size, 0, none⟩ = some (.int .i64 y0) := hD1.cell 0; have e1 : w1.cell? ⟨wr.heap.size, 1, none⟩ = some (.int .i64 y1) := hD1.cell 1; have e2 : w1.cell? ⟨wr.heap.size, 2, none⟩ = some (.int .i64 y2) := hD1.cell 2; have hx01 : Ext Nothing wr w1 := hxd.tr hx1))
     go_quiet (fail)
     have hd := (Ext.refl Nothing w1).drewN nq
     generalize w1.drewN nq = wq at hd ⊢
     have hxe : Ext Nothing wr wq := hx01.tr hd
     go_wp2
     go_roundw
     case rel => exact ⟨t + 1, HT.out, by go_num, dL, A, n, ca, l, HL.out, hO.keep0 hxe, hs1.out.symm, by have := HD.out; omega, hB.e0 hxe, hR.e0 hxe, hx.trans hxe (fun _ _ e => e.elim)⟩
     case measure => have := HT.out; simp [intOf]; omega
    | false =>
     cases h5 : (x5 != y1) with
     | true =>
      have hs1 := Lib.hid (HS.out.trans (look_no (s := ({ s with deploys := dL, AS := A, nS := n, cS := ca, stable := l } : StoreV).data) HY.out HJA.out (by show (y2 == 1 && x5 == y1 && _) = false; rw [show (x5 == y1) = false from by simpa using h5]; simp)))
      go_wp2_with (first | go_skip | go_guarded | ((with_reducible refine isW ?_); refine wpList_load_at rfl 97 _ rfl STDeploy g (t * 4) rfl #[.int .i64 y0, .int .i64 y1, .int .i64 y2, .int .i64 y3] hceD rfl ?_) | ((with_reducible refine isW ?_); refine wpList_load_blk rfl 30 _ rfl STStore w.heap.size rfl ({ s with deploys := dL, AS := A, nS := n, cS := ca, stable := l } : StoreV).arr (show Blk _ _ 30 _ from by first | exact hB1 | exact hBd) rfl ?_) | (go_at_call 51; (with_reducible refine (refAtJob s.AJ s.nJ s.cJ s.jobs y0 _ (hsj.ext0 hxd) hnJ _ _ _ _ _ _ _ _).mono ?_); rintro e w1 ⟨rfl, hx1⟩; rw [HI.out]; have hB1 := hBd.e0 hx1; have hD1 := hDd.e0 hx1; have e0 : w1.cell? ⟨wr.heap.size, 0, none⟩ = some (.int .i64 y0) := hD1.cell 0; have e1 : w1.cell? ⟨wr.heap.size, 1, none⟩ = some (.int .i64 y1) := hD1.cell 1; have e2 : w1.cell? ⟨wr.heap.size, 2, none⟩ = some (.int .i64 y2) := hD1.cell 2; have hx01 : Ext Nothing wr w1 := hxd.tr hx1; have c2 : w1.cell? ⟨w.heap.size, 2, none⟩ = some (.slice (some ⟨b, off, none⟩) s.nJ s.cJ) := (by rw [← HAj.out]; exact hB1.cell 2); have j5 : w1.cell? ⟨b, off + i * 7 + 5, none⟩ = some (.int .i64 x5) := hx01.cell (hcj 5 _ rfl) (fun e => e)))
      go_quiet (fail)
      have hd := (Ext.refl Nothing w1).drewN nq
      generalize w1.drewN nq = wq at hd ⊢
      have hxe : Ext Nothing wr wq := hx01.tr hd
      go_wp2
      go_roundw
      case rel => exact ⟨t + 1, HT.out, by go_num, dL, A, n, ca, l, HL.out, hO.keep0 hxe, hs1.out.symm, by have := HD.out; omega, hB.e0 hxe, hR.e0 hxe, hx.trans hxe (fun _ _ e => e.elim)⟩
      case measure => have := HT.out; simp [intOf]; omega
     | false =>
      have hsn := slotsN_all HJA.out
      have hc : (y2 == 1 && x5 == y1 && Fsm.allRun ({ s with deploys := dL, AS := A, nS := n, cS := ca, stable := l } : StoreV).data ⟨y0, x1, x2, x3, xg, x5, x6⟩) = Fsm.allRun ({ s with deploys := dL, AS := A, nS := n, cS := ca, stable := l } : StoreV).data ⟨y0, x1, x2, x3, xg, x5, x6⟩ := by
       rw [show (y2 == 1) = true from by simpa using h2, show (x5 == y1) = true from by simpa using h5]; rfl
      obtain ⟨n1, hn1⟩ : ∃ q, (slotsN ({ s with deploys := dL, AS := A, nS := n, cS := ca, stable := l } : StoreV).data y0).1 = q := ⟨_, rfl⟩
      obtain ⟨n2, hn2⟩ : ∃ q, (slotsN ({ s with deploys := dL, AS := A, nS := n, cS := ca, stable := l } : StoreV).data y0).2 = q := ⟨_, rfl⟩
      rw [hn1, hn2] at hsn
      have hnn : (((n1 : Nat) : Int) == ((n2 : Nat) : Int)) = Fsm.allRun ({ s with deploys := dL, AS := A, nS := n, cS := ca, stable := l } : StoreV).data ⟨y0, x1, x2, x3, xg, x5, x6⟩ := by rw [← hsn]; cases hq : (n1 == n2) <;> simp at hq ⊢ <;> omega
      have HN1 := Lib.hid hn1
      have HN2 := Lib.hid hn2
      have HC := Lib.hid hc
      clear hsn hn1 hn2 hc
      cases hq : Fsm.allRun ({ s with deploys := dL, AS := A, nS := n, cS := ca, stable := l } : StoreV).data ⟨y0, x1, x2, x3, xg, x5, x6⟩ with
      | false =>
       rw [hq] at hnn
       have hs1 := Lib.hid (HS.out.trans (look_no (s := ({ s with deploys := dL, AS := A, nS := n, cS := ca, stable := l } : StoreV).data) HY.out HJA.out (HC.out.trans hq)))
       clear hq
       go_wp2_with (first | go_skip | go_guarded | ((with_reducible refine isW ?_); refine wpList_load_at rfl 97 _ rfl STDeploy g (t * 4) rfl #[.int .i64 y0, .int .i64 y1, .int .i64 y2, .int .i64 y3] hceD rfl ?_) | ((with_reducible refine isW ?_); refine wpList_load_blk rfl 30 _ rfl STStore w.heap.size rfl ({ s with deploys := dL, AS := A, nS := n, cS := ca, stable := l } : StoreV).arr (show Blk _ _ 30 _ from by first | exact hB1 | exact hBd) rfl ?_) | (go_at_call 51; (with_reducible refine (refAtJob s.AJ s.nJ s.cJ s.jobs y0 _ (hsj.ext0 hxd) hnJ _ _ _ _ _ _ _ _).mono ?_); rintro e w1 ⟨rfl, hx1⟩; rw [HI.out]; have hB1 := hBd.e0 hx1; have hD1 := hDd.e0 hx1; have e0 : w1.cell? ⟨wr.heap.size, 0, none⟩ = some (.int .i64 y0) := hD1.cell 0; have e1 : w1.cell? ⟨wr.heap.size, 1, none⟩ = some (.int .i64 y1) := hD1.cell 1; have e2 : w1.cell? ⟨wr.heap.size, 2, none⟩ = some (.int .i64 y2) := hD1.cell 2; have hx01 : Ext Nothing wr w1 := hxd.tr hx1; have c2 : w1.cell? ⟨w.heap.size, 2, none⟩ = some (.slice (some ⟨b, off, none⟩) s.nJ s.cJ) := (by rw [← HAj.out]; exact hB1.cell 2); have j5 : w1.cell? ⟨b, off + i * 7 + 5, none⟩ = some (.int .i64 x5) := hx01.cell (hcj 5 _ rfl) (fun e => e)))
       go_quiet (fail)
       have hd := (Ext.refl Nothing w1).drewN nq
       generalize w1.drewN nq = wq at hd ⊢
       have hxe : Ext Nothing wr wq := hx01.tr hd
       have hOq := hO.keep0 hxe
       have hBq := hB.e0 hxe
       have f0 : wq.cell? ⟨wr.heap.size, 0, none⟩ = some (.int .i64 y0) := hd.c0 e0
       go_wp2_with (first | go_skip | go_guarded | ((with_reducible refine isW ?_); refine wpList_load_blk rfl 30 _ rfl STStore w.heap.size rfl ({ s with deploys := dL, AS := A, nS := n, cS := ca, stable := l } : StoreV).arr (show Blk _ _ 30 _ from by exact hBq) rfl ?_) | (go_at_call 80; (with_reducible refine (refSlots base ({ s with deploys := dL, AS := A, nS := n, cS := ca, stable := l } : StoreV) y0 wq hOq hJ hA).mono ?_); rintro e w3 ⟨rfl, hx3⟩; (rw [HN1.out, HN2.out])))
       have hxf := hxe.tr hx3
       go_roundw
       case rel => exact ⟨t + 1, HT.out, by go_num, dL, A, n, ca, l, HL.out, hO.keep0 hxf, hs1.out.symm, by have := HD.out; omega, hB.e0 hxf, hR.e0 hxf, hx.trans hxf (fun _ _ e => e.elim)⟩
       case measure => have := HT.out; simp [intOf]; omega
      | true =>
       rw [hq] at hnn
       have hs1 := Lib.hid (HS.out.trans (look_yes (s := ({ s with deploys := dL, AS := A, nS := n, cS := ca, stable := l } : StoreV).data) HY.out HJA.out (HC.out.trans hq)))
       clear hq
       have HYd := Lib.hid (show dL[t]? = some ⟨y0, y1, y2, y3⟩ from HY.out)
       go_wp2_with (first | go_skip | go_guarded | ((with_reducible refine isW ?_); refine wpList_load_at rfl 97 _ rfl STDeploy g (t * 4) rfl #[.int .i64 y0, .int .i64 y1, .int .i64 y2, .int .i64 y3] hceD rfl ?_) | ((with_reducible refine isW ?_); refine wpList_load_blk rfl 30 _ rfl STStore w.heap.size rfl ({ s with deploys := dL, AS := A, nS := n, cS := ca, stable := l } : StoreV).arr (show Blk _ _ 30 _ from by first | exact hB1 | exact hBd) rfl ?_) | (go_at_call 51; (with_reducible refine (refAtJob s.AJ s.nJ s.cJ s.jobs y0 _ (hsj.ext0 hxd) hnJ _ _ _ _ _ _ _ _).mono ?_); rintro e w1 ⟨rfl, hx1⟩; rw [HI.out]; have hB1 := hBd.e0 hx1; have hD1 := hDd.e0 hx1; have e0 : w1.cell? ⟨wr.heap.size, 0, none⟩ = some (.int .i64 y0) := hD1.cell 0; have e1 : w1.cell? ⟨wr.heap.size, 1, none⟩ = some (.int .i64 y1) := hD1.cell 1; have e2 : w1.cell? ⟨wr.heap.size, 2, none⟩ = some (.int .i64 y2) := hD1.cell 2; have hx01 : Ext Nothing wr w1 := hxd.tr hx1; have c2 : w1.cell? ⟨w.heap.size, 2, none⟩ = some (.slice (some ⟨b, off, none⟩) s.nJ s.cJ) := (by rw [← HAj.out]; exact hB1.cell 2); have j5 : w1.cell? ⟨b, off + i * 7 + 5, none⟩ = some (.int .i64 x5) := hx01.cell (hcj 5 _ rfl) (fun e => e)))
       go_quiet (fail)
       have hd := (Ext.refl Nothing w1).drewN nq
       generalize w1.drewN nq = wq at hd ⊢
       have hxe : Ext Nothing wr wq := hx01.tr hd
       have hOq := hO.keep0 hxe
       have hBq := hB.e0 hxe
       have f0 : wq.cell? ⟨wr.heap.size, 0, none⟩ = some (.int .i64 y0) := hd.c0 e0
       go_wp2_with (first | go_skip | go_guarded | ((with_reducible refine isW ?_); refine wpList_load_blk rfl 30 _ rfl STStore w.heap.size rfl ({ s with deploys := dL, AS := A, nS := n, cS := ca, stable := l } : StoreV).arr (show Blk _ _ 30 _ from by exact hBq) rfl ?_) | (go_at_call 80; (with_reducible refine (refSlots base ({ s with deploys := dL, AS := A, nS := n, cS := ca, stable := l } : StoreV) y0 wq hOq hJ hA).mono ?_); rintro e w3 ⟨rfl, hx3⟩; (rw [HN1.out, HN2.out]); have hB3 := hBq.e0 hx3; have c73 : w3.cell? ⟨w.heap.size, 7, none⟩ = some (.slice (some ⟨g, 0, none⟩) s.nD s.cD) := (by rw [← HA.out]; exact hB3.cell 7); have k23 : w3.cell? ⟨g, t * 4 + 2, none⟩ = some (.int .i64 y2) := (hxe.tr hx3).cell (hceD 2 _ rfl) (fun e => e); have hgb3 := (hgb.e0 hxe).e0 hx3; have fr3 : w3.frozen? ⟨g, t * 4 + 2, none⟩ = false := hgb3.frozen _))
       have hxf := hxe.tr hx3
       have hO3 := hO.keep0 hxf
       obtain ⟨g', _, hg', _, _, _, _, hput'⟩ := hO3.putD HYd.out
       have hgg : g = g' := by have h7 : s.AD = some ⟨g', 0, none⟩ := hg'; rw [HA.out] at h7; injection h7 with h7; injection h7
       subst hgg
       have hO9 : OwnS base (w3.setCell ⟨g, t * 4 + 2, none⟩ (.int .i64 2)) ({ s with deploys := dL.set t ⟨y0, y1, 2, y3⟩, AS := A, nS := n, cS := ca, stable := l } : StoreV) := hput' 2 (.int .i64 2) ⟨y0, y1, 2, y3⟩ (by decide) rfl
       have hs9 : Ext (fun b => b = g) w3 (w3.setCell ⟨g, t * 4 + 2, none⟩ (.int .i64 2)) := Ext.set1 _ _ _ _
       have hB9 : Blk (w3.setCell ⟨g, t * 4 + 2, none⟩ (.int .i64 2)) w.heap.size 30 ({ s with deploys := dL, AS := A, nS := n, cS := ca, stable := l } : StoreV).arr := hB3.ext hs9 (fun e => hg0 e.symm)
       have hR9 := (hR.e0 hxf).ext hs9 (fun e => by have h2 := hSw _ hob; have h3 : w.heap.size + 1 = g := e; omega)
       have hx9 : Ext (fun b => (vD s).ownBlock = some b) w (w3.setCell ⟨g, t * 4 + 2, none⟩ (.int .i64 2)) := (hx.trans hxf (fun _ _ e => e.elim)).setCell (p := ⟨g, t * 4 + 2, none⟩) (.inr hob) _
       have hgs9 : Sl (w3.setCell ⟨g, t * 4 + 2, none⟩ (.int .i64 2)) 3 GA gn (xg.map GroupD.cells) := by
        obtain ⟨A', n', c', e', s', _, _⟩ := (hO9.j.grp (⟨y0, x1, x2, x3, xg, x5, x6⟩, .slice GA gn gc) (HXI.out)).sl
        injection e' with e1 e2 e3
        subst e1; subst e2
        exact s'
       clear hput' hg' hO3 hs9
       generalize (w3.setCell ⟨g, t * 4 + 2, none⟩ (.int .i64 2)) = w9 at hO9 hB9 hR9 hx9 hgs9 ⊢
       obtain ⟨_, b', off', hAj', hcj'⟩ := hO9.slJ.get (Ext.refl Nothing w9) (k := i) (by have := hjl.out; show i < s.nJ; omega)
       have hbb : b = b' ∧ off = off' := by have h7 : s.AJ = some ⟨b', off', none⟩ := hAj'; rw [HAj.out] at h7; injection h7 with h7; injection h7 with h8 h9; exact ⟨h8, h9⟩
       obtain ⟨h8, h9⟩ := hbb
       subst h8; subst h9
       have hji : ∀ j u, (JobV.cells (⟨y0, x1, x2, x3, xg, x5, x6⟩, .slice GA gn gc))[j]? = some u → w9.cell? ⟨b, off + i * 7 + j, none⟩ = some u := by
        have := hcj'
        have e9 : s.jobs[i] = (⟨y0, x1, x2, x3, xg, x5, x6⟩, .slice GA gn gc) := HXJ.out
        simp only [e9] at this
        exact this
       have c3 : w9.cell? ⟨w.heap.size, 3, none⟩ = some (.slice A n ca) := hB9.cell 3
       have c2' : w9.cell? ⟨w.heap.size, 2, none⟩ = some (.slice (some ⟨b, off, none⟩) s.nJ s.cJ) := by rw [← HAj.out]; exact hB9.cell 2
       have j0 : w9.cell? ⟨b, off + i * 7, none⟩ = some (.int .i64 y0) := hji 0 _ rfl
       have j1 : w9.cell? ⟨b, off + i * 7 + 1, none⟩ = some (.int .i64 x1) := hji 1 _ rfl
       have j2 : w9.cell? ⟨b, off + i * 7 + 2, none⟩ = some (.int .i64 x2) := hji 2 _ rfl
       have j3 : w9.cell? ⟨b, off + i * 7 + 3, none⟩ = some (.int .i64 x3) := hji 3 _ rfl
       have j4 : w9.cell? ⟨b, off + i * 7 + 4, none⟩ = some (.slice GA gn gc) := hji 4 _ rfl
       have j5' : w9.cell? ⟨b, off + i * 7 + 5, none⟩ = some (.int .i64 x5) := hji 5 _ rfl
       have j6 : w9.cell? ⟨b, off + i * 7 + 6, none⟩ = some (.bool x6) := hji 6 _ rfl
       go_still_tail 7, (by kernel_rfl)
       have hd9 : Ext Nothing w9 w9.drew := (Ext.refl _ _).drew
       change wpList _ _ _ _ _ w9.drew
       generalize w9.drew = wz at hd9 ⊢
       have hOz := hO9.keep0 hd9
       have hBz := hB9.e0 hd9
       have hRz := hR9.e0 hd9
       have hgsz := hgs9.ext0 hd9
       have hxz := hx9.trans hd9 (fun _ _ e => e.elim)
       have hlL : l.length < 67108862 := by have := HD.out; omega
       go_wp2_with (first | (go_at_call 78; (with_reducible refine (refJobs A n ca l y0 x1 x2 x3 xg x5 x6 GA gn gc wz hOz.slT hlL (fun y hy => (hOz.t.grp y hy).slice) hgsz hgb2).mono ?_); rintro e w5 ⟨A5, c5, AG5, cG5, rfl, ho5, hg5, hx5⟩; have hB5 := hBz.e0 hx5; have q3 : w5.cell? ⟨w.heap.size, 3, none⟩ = some (.slice A n ca) := hB5.cell 3; have fr5 : w5.frozen? ⟨w.heap.size, 3, none⟩ = false := hB5.frozen 3))
       have hR5 := hRz.e0 hx5
       have hbz : base ≤ wz.heap.size := by have := hxz.size; omega
       have hO5 := hOz.wT2 hx5 ho5 (Fsm.putL_all (P := GrpOk base w5) (fun y hy => ((hOz.t.grp y hy).keep hx5 Apart.none)) (GrpOk.new (j := ⟨y0, x1, x2, x3, xg, x5, x6⟩) hg5 HGL.out hgb2 hbz)) hbz
       have hsb : Ext (fun b => b = w.heap.size) w5 (w5.setCell ⟨w.heap.size, 3, none⟩ (.slice A5 (Fsm.putL (fun x : JobV => x.1.id) (⟨y0, x1, x2, x3, xg, x5, x6⟩, .slice AG5 gn cG5) l).length c5)) := Ext.set1 _ _ _ _
       have hO6 := hO5.keep hsb (Apart.one hB5 (by decide))
       have hlen : (Fsm.putL (fun x : JobV => x.1.id) (⟨y0, x1, x2, x3, xg, x5, x6⟩, .slice AG5 gn cG5) l).length ≤ s.stable.length + (t + 1) := by
        have := Fsm.putL_len (key := fun x : JobV => x.1.id) (x := ((⟨y0, x1, x2, x3, xg, x5, x6⟩, .slice AG5 gn cG5) : JobV)) l
        have := HD.out
        omega
       have hx6 : Ext (fun b => (vD s).ownBlock = some b) w (w5.setCell ⟨w.heap.size, 3, none⟩ (.slice A5 (Fsm.putL (fun x : JobV => x.1.id) (⟨y0, x1, x2, x3, xg, x5, x6⟩, .slice AG5 gn cG5) l).length c5)) := (hxz.trans hx5 (fun _ _ e => e.elim)).trans hsb (fun b hb e => absurd (show b = w.heap.size from e) (by omega))
       have hdat := (congrArg (fun z => ({ ({ s with deploys := dL.set t ⟨y0, y1, 2, y3⟩, AS := A, nS := n, cS := ca, stable := l } : StoreV).data with stable := z } : StoreD)) (putL_map (⟨y0, x1, x2, x3, xg, x5, x6⟩, .slice AG5 gn cG5) l)).trans hs1.out.symm
       have hdl2 : (dL.set t ⟨y0, y1, 2, y3⟩).length = s.nD := by rw [List.length_set]; exact HL.out
       have hB6 := hB5.set_ 3 (.slice A5 (Fsm.putL (fun x : JobV => x.1.id) (⟨y0, x1, x2, x3, xg, x5, x6⟩, .slice AG5 gn cG5) l).length c5)
       have hR6 := hR5.ext hsb (fun e => absurd (show w.heap.size + 1 = w.heap.size from e) (by omega))
       go_roundw
       case rel => exact ⟨t + 1, HT.out, by go_num, dL.set t ⟨y0, y1, 2, y3⟩, A5, _, c5, Fsm.putL (fun x : JobV => x.1.id) (⟨y0, x1, x2, x3, xg, x5, x6⟩, .slice AG5 gn cG5) l, hdl2, hO6, hdat, hlen, hB6, hR6, hx6⟩
       case measure => have := HT.out; simp [intOf]; omega
  ·have hnl : ¬ ((t : Int) < s.nD) := by omega
   have htt : t = s.deploys.length := by have := hdl.out; omega
   have HD := Lib.hid (show ({ s with deploys := dL, AS := A, nS := n, cS := ca, stable := l } : StoreV).data = Fsm.looked s.data from hD.trans (by rw [htt]; rfl))
   have HE := Lib.hid (show l.length ≤ s.stable.length + s.deploys.length from htt ▸ hL)
   have HL := Lib.hid (show dL.length = s.deploys.length from hla.trans hdl.out)
   clear hD hdl htt hL hla
   go_wp2_with (first | go_skip | ((with_reducible refine isW ?_); refine wpList_load_blk rfl 30 _ rfl STStore w.heap.size rfl ({ s with deploys := dL, AS := A, nS := n, cS := ca, stable := l } : StoreV).arr hB rfl ?_) | ((with_reducible refine isW ?_); refine wpList_store_blk rfl 30 _ _ rfl STStore (w.heap.size + 1) rfl ({ s with deploys := dL, AS := A, nS := n, cS := ca, stable := l } : StoreV).arr rfl hR rfl rfl rfl ?_; intro w2 hR2 hx2))
   exact bodyPost_ret (results_cell rfl STStore (g := w.heap.size + 1) rfl hR2 rfl) rfl ⟨({ s with deploys := dL, AS := A, nS := n, cS := ca, stable := l } : StoreV), rfl, hO.keep hx2 (Apart.one hR (by decide)), HD.out, HE.out, ⟨dL, A, n, ca, l, HL.out, rfl⟩, hx.trans hx2 (fun b hb e => absurd (show b = w.heap.size + 1 from e) (by omega))⟩
end Go.Proofs.YtlpfcmnnmdhaoaaGreat
