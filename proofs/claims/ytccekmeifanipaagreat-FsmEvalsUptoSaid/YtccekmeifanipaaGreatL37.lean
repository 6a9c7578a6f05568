/- Parts of the proof: Evals -/
import Derived.Test.YtccekmeifanipaaGreatL35
namespace Go.Proofs.YtccekmeifanipaaGreat
set_option linter.unusedVariables false
set_option linter.unusedSimpArgs false
set_option linter.unusedSectionVars false
open Go.RowKit
theorem Q6 {s : Aa} (h : Fsm.Evs s.data) {k : Nat} (h1 : k < s.evals.length) (h2 : k < s.jobs.length) : (s.evals[k]).job = (s.jobs[k]).1.id := by
 have hk : (s.evals.map EvalD.job)[k]? = ((s.jobs.map (·.1)).map Al.id)[k]? := congrArg (·[k]?) h.keys
 rw [List.map_map, List.getElem?_map, List.getElem?_map, List.getElem?_eq_getElem h1, List.getElem?_eq_getElem h2] at hk
 exact Option.some.inj hk
theorem JM {s : Aa} (he : Fsm.Evs s.data) {job : Int} (h : Fsm.Dl s.data job) : ∃ (i : Nat) (y : EvalD), Cn (fun e : EvalD => e.job == job) s.evals = i ∧ s.evals[i]? = some y ∧ y.state = 1 ∧ y.index = s.index := by
 obtain ⟨e, hem, hej, hs, hi⟩ := h
 rcases AC (fun e : EvalD => e.job == job) s.evals with ⟨_, _, hno⟩ | ⟨i, y, h1, h2, h3, _, _⟩
 ·exact absurd (hno e hem) (by simp [hej])
 have hy : y = e := Fsm.up_eq (key := EvalD.job) (l := s.evals) (show ((s.evals.map EvalD.job).Pairwise (· < ·)) from he.keys ▸ he.sorted) (List.mem_of_getElem? h2) hem (by rw [hej]; simpa using h3)
 subst hy
 exact ⟨i, y, h1, h2, hs, hi⟩
set_option maxRecDepth 20000 in
set_option maxHeartbeats 16000000 in
theorem NS (LA : Option Addr) (ln lc : Nat) (l : List Ba) (c : Ba) (w : World) (hl : Sl w 27 LA ln (l.map Ba.cells)) (hr : ∀ c ∈ l, c.Read w) (hn0 : ln ≤ 1048575) (hc : c.Read w) :
  Calls Tryz.prog 10 #[.slice LA ln lc, .agg c.arr] w fun e w' => e = .returned (.bool true) ∧ Ext Nothing w w' := by
 have hn : ln ≤ 1048576 := by omega
 have hxP : Ext Nothing w (w.alloc (.cells c.arr 51)) := Ext.Aq
 have hP : Blk (w.alloc (.cells c.arr 51)) w.heap.size 51 c.arr := Blk.new _ _ _
 go_enter Tryz.func10, Tryz.ntmps10
 go_upto_region 1 with (first | go_skip | go_guarded)
 generalize hPP : w.heap.size = P at hP ⊢
 have HPP := Lib.hid hPP
 clear hPP
 generalize (w.alloc (.cells c.arr 51)) = wp at hxP hP ⊢
 have hlp := hl.Ar hxP
 have hrp : ∀ c ∈ l, c.Read wp := fun c hc => (hr c hc).Ar hxP
 go_upto_region 2 with (first | go_skip | go_guarded | (go_at_call 24; (with_reducible refine (Kk LA ln lc l wp hlp hrp hn).mono ?_); rintro e w2 ⟨sV, rfl, hO, hG, hD, hx2⟩))
 have hxs : Ext Nothing w2 (w2.alloc (.cells sV.arr 30)) := Ext.Aq
 have hT : Blk (w2.alloc (.cells sV.arr 30)) w2.heap.size 30 sV.arr := Blk.new _ _ _
 have hOS := (hO.base hxP.size).AY hxs
 have hxS := (hxP.tr hx2).tr hxs
 have hPS := (hP.e0 hx2).e0 hxs
 clear hlp hrp
 have HG := Lib.hid hG
 have HD := Lib.hid hD
 clear hO hx2 hxs hG hD hxP
 generalize w2.heap.size = T at hT ⊢
 generalize (w2.alloc (.cells sV.arr 30)) = wS at hT hOS hxS hPS ⊢
 go_upto_region 3 with (first | go_skip | go_guarded | ((with_reducible refine isW ?_); refine Ae rfl 30 _ rfl STStore T rfl sV.arr (show Blk _ _ 30 _ from hT) rfl ?_))
 go_upto_region 4 with (first | go_skip | go_guarded | ((with_reducible refine isW ?_); refine Ae rfl 30 _ rfl STStore T rfl sV.arr (show Blk _ _ 30 _ from hT) rfl ?_) | ((with_reducible refine isW ?_); refine Ae rfl 51 _ rfl IJ P rfl c.arr (show Blk _ _ 51 _ from hPS) rfl ?_) | (go_at_call 15; (with_reducible refine (Ch (base := w.heap.size) (t := ln) (w := wS) (s := sV) (c := c) (ix := (ln : Int) + 1) 1 hOS HG.out (hc.K8 hxS) hc.op (by omega) (by omega) (by omega)).mono ?_); rintro e w3 ⟨s5, r5, rv5, rfl, hO5, hF5, ⟨RA5, rc5, rfl, hro5⟩, hx3⟩))
 have hal : Ext Nothing w3 ((w3.alloc (.cells s5.arr 30)).alloc (.cells #[.int .i64 r5.code, .int .i64 r5.value, .slice RA5 r5.allocs.length rc5] 34)) := Ext.Aq
 have hT5 : Blk ((w3.alloc (.cells s5.arr 30)).alloc (.cells #[.int .i64 r5.code, .int .i64 r5.value, .slice RA5 r5.allocs.length rc5] 34)) w3.heap.size 30 s5.arr := (Blk.new w3 _ _).e0 Ext.Aq
 have hE5 : Blk ((w3.alloc (.cells s5.arr 30)).alloc (.cells #[.int .i64 r5.code, .int .i64 r5.value, .slice RA5 r5.allocs.length rc5] 34)) (w3.heap.size + 1) 34 #[.int .i64 r5.code, .int .i64 r5.value, .slice RA5 r5.allocs.length rc5] := Blk.new' _ _ _ (by simp)
 have hx5 : Ext Nothing wS ((w3.alloc (.cells s5.arr 30)).alloc (.cells #[.int .i64 r5.code, .int .i64 r5.value, .slice RA5 r5.allocs.length rc5] 34)) := hx3.tr hal
 have hO5 := (hO5.base (show w.heap.size ≤ wS.heap.size by have := hxS.size; omega)).AY hal
 have hz3 := hx3.size
 clear hal hx3
 generalize w3.heap.size = TT at hT5 hE5 hz3 ⊢
 generalize ((w3.alloc (.cells s5.arr 30)).alloc (.cells #[.int .i64 r5.code, .int .i64 r5.value, .slice RA5 r5.allocs.length rc5] 34)) = w5 at hT5 hE5 hx5 hO5 ⊢
 have hTs := hT.e0 hx5
 have hOs := hOS.AY hx5
 have hPs := hPS.e0 hx5
 have hxw5 := hxS.tr hx5
 have HS5 := Lib.hid (show Fsm.Ew (ln + 1) s5.data by have h9 := Fsm.Df HG.out hn (c := c.d) hc.Fe; rw [hF5] at h9; exact h9)
 have HEN := Lib.hid (show Fsm.Fb sV.data s5.data by have h9 := Fsm.LW HG.out.num HG.out.evs ((ln : Int) + 1) c.d; rw [hF5] at h9; exact h9)
 have HAS := Lib.hid (show (c.op == 3 || c.op == 4) = true → c.client = 0 → r5.code = 0 → Fsm.Dl s5.data c.job.id from fun h1 h2 h3 => by have h9 := Fsm.L6 HG.out.evs ((ln : Int) + 1) (by rw [HG.out.ix]; omega) (by omega) c.d h1 h2; rw [hF5] at h9; exact h9 h3)
 have HIX := Lib.hid (show s5.index = (ln : Int) + 1 by have h9 : s5.index = ((ln + 1 : Nat) : Int) := HS5.out.ix; omega)
 have hEJ : s5.nE = s5.nJ := by rw [hO5.el, hO5.jl]; have := congrArg List.length HS5.out.evs.keys; simpa [Aa.data] using this
 clear hF5 hro5 hT hOS hxS hPS hx5
 obtain ⟨ql1, ql2, ql3, ql4, ql5, ql6, ql7⟩ := Dh HG.out (show ln ≤ 1048576 by omega)
 have hmJ : sV.nJ ≤ 1048576 := by have := hOs.jl; omega
 have hmS : sV.nS ≤ 1048576 := by have := hOs.tl; omega
 have hmN : sV.nN ≤ 1048576 := by have := hOs.nl; omega
 have hmA : sV.nA ≤ 64 := by have := hOs.al; omega
 have hmE : sV.nE ≤ 1048576 := by have := hOs.el; omega
 have hmD : sV.nD ≤ 1048576 := by have := hOs.dl; omega
 clear ql1 ql2 ql3 ql4 ql5 ql6 ql7
 obtain ⟨ql1, ql2, ql3, ql4, ql5, ql6, ql7⟩ := Dh HS5.out (show ln + 1 ≤ 1048576 by omega)
 have hkJ : s5.nJ ≤ 1048576 := by have := hO5.jl; omega
 have hkS : s5.nS ≤ 1048576 := by have := hO5.tl; omega
 have hkN : s5.nN ≤ 1048576 := by have := hO5.nl; omega
 have hkA : s5.nA ≤ 64 := by have := hO5.al; omega
 have hkE : s5.nE ≤ 1048576 := by have := hO5.el; omega
 have hkD : s5.nD ≤ 1048576 := by have := hO5.dl; omega
 clear ql1 ql2 ql3 ql4 ql5 ql6 ql7
 have m6 : w5.cell? ⟨TT, 6, none⟩ = some (.slice s5.AE s5.nJ s5.cE) := by have h9 := hT5.cell (i := 6); rw [← hEJ]; exact h9
 have m2 : w5.cell? ⟨TT, 2, none⟩ = some (.slice s5.AJ s5.nJ s5.cJ) := hT5.cell 2
 have HEJ := Lib.hid hEJ
 clear hEJ
 go_wp2_with (first | go_skip | go_guarded)
 clear m6 m2
 go_loopw [9] (fun ki wr => ∃ k : Nat, k ≤ s5.nJ ∧ ki = .int .i64 k ∧ Ext Nothing w5 wr) (fun ki _ => s5.nJ - (intOf ki).toNat)
 case atStart => exact ⟨0, Nat.zero_le _, rfl, Ext.refl _ _⟩
 case round =>
  obtain ⟨k, hk, rfl, hx⟩ := hrel
  have m2 : wr.cell? ⟨TT, 2, none⟩ = some (.slice s5.AJ s5.nJ s5.cJ) := (hT5.e0 hx).cell 2
  by_cases hlt : k < s5.nJ
  ·obtain ⟨hjm, g2, off2, hAj, hjce⟩ := hO5.slJ.get hx hlt
   obtain ⟨hjn, g, offa, hAe, hace⟩ := hO5.slE.get hx (show k < s5.nE by rw [HEJ.out]; exact hlt)
   have hsj := Q6 HS5.out.evs hjn hjm
   have heb : 1 ≤ (s5.evals[k]).index ∧ (s5.evals[k]).index ≤ s5.index := HS5.out.evs.bound _ (List.getElem_mem hjn)
   rw [HIX.out] at heb
   generalize s5.evals[k] = y at hace hsj heb
   generalize s5.jobs[k] = x at hjce hsj
   obtain ⟨e0, e1, e2, e3⟩ := y
   obtain ⟨⟨x0, x1, x2, x3, xg, x5, x6⟩, xv⟩ := x
   have hsj : x0 = e0 := hsj.symm
   subst hsj
   have m6 : wr.cell? ⟨TT, 6, none⟩ = some (.slice s5.AE s5.nE s5.cE) := (hT5.e0 hx).cell 6
   rw [hAe] at m6
   rw [hAj] at m2
   have a0 : wr.cell? ⟨g, offa + k * 4, none⟩ = some (.int .i64 x0) := hace 0 _ rfl
   have a3 : wr.cell? ⟨g, offa + k * 4 + 3, none⟩ = some (.int .i64 e3) := hace 3 _ rfl
   have j0 : wr.cell? ⟨g2, off2 + k * 7, none⟩ = some (.int .i64 x0) := hjce 0 _ rfl
   have HTK := Lib.hid hlt
   have hk0 : (0 : Int) ≤ (k : Int) := by omega
   have hk1 : (k : Int) < s5.nJ := by omega
   have hk2 : (k : Int) < s5.nE := by rw [HEJ.out]; exact hk1
   have v1 : (x0 != x0) = false := by simp
   have v2 : decide (((ln : Int) + 1) < e3) = false := by have h9 : 1 ≤ e3 ∧ e3 ≤ (ln : Int) + 1 := heb; simp; omega
   have v3 : decide (e3 < 1) = false := by have h9 : 1 ≤ e3 ∧ e3 ≤ (ln : Int) + 1 := heb; simp; omega
   clear hAe hAj hace hjce heb hlt
   go_upto_region 9 with (first | go_skip | go_guarded)
   refine AF (by kernel_rfl) (by kernel_rfl) ?_
   repeat (first | go_big_quiet_skip | (go_big_quiet_want; (first | ((refine Bp rfl ?_); (first | (refine Ah (p := ⟨TT, 6, none⟩) (v := .slice (some ⟨g, offa, none⟩) s5.nE s5.cE) ?_ ?_ ?_; (focus rfl); (focus (intro W' hW; have q := hW.c0 m6; go_simp; done))) | (refine Ah (p := ⟨TT, 2, none⟩) (v := .slice (some ⟨g2, off2, none⟩) s5.nJ s5.cJ) ?_ ?_ ?_; (focus rfl); (focus (intro W' hW; have q := hW.c0 m2; go_simp; done))) | (refine Ah (p := ⟨g, offa + k * 4, none⟩) (v := .int .i64 x0) ?_ ?_ ?_; (focus rfl); (focus (intro W' hW; have q := hW.c0 a0; go_simp; done))) | (refine Ah (p := ⟨g, offa + k * 4 + 3, none⟩) (v := .int .i64 e3) ?_ ?_ ?_; (focus rfl); (focus (intro W' hW; have q := hW.c0 a3; go_simp; done))) | (refine Ah (p := ⟨g2, off2 + k * 7, none⟩) (v := .int .i64 x0) ?_ ?_ ?_; (focus rfl); (focus (intro W' hW; have q := hW.c0 j0; go_simp; done)))); (try simp only [Act.put, zA, zB, zC, zD, zE, zF]); (try simp only [v1]); (try simp only [v2]); (try simp only [v3])) | go_big_quiet_op); go_big_quiet_on))
   refine wpQuiet_nil ?_
   intro w6 hx6
   have hxn := hx.tr hx6
   go_wp2_with (first | go_skip | go_guarded)
   go_roundw
   case rel => exact ⟨k + 1, HTK.out, by go_num, hxn⟩
   case measure => have := HTK.out; simp [intOf]; omega
  have hnl : ¬ ((k : Int) < s5.nJ) := by omega
  have hx6 := hx
  clear hx hlt
  obtain ⟨w6, rfl⟩ : ∃ z : World, z = wr := ⟨_, rfl⟩
  have hT6 := hT5.e0 hx6
  have hE6 := hE5.e0 hx6
  have hP6 := hPs.e0 hx6
  go_upto_region 11 with (first | go_skip | go_guarded)
  clear m2
  go_cut [10] from 74 to 91 (fun e10 wx => e10 = .bool ((c.op == 3 || c.op == 4) && (r5.code == 0) && (c.client == 0)) ∧ wx = w6)
  case first =>
   have p0 : w6.cell? ⟨P, 0, none⟩ = some (.int .i64 c.op) := hP6.cell 0
   have p1 : w6.cell? ⟨P, 1, none⟩ = some (.int .i64 c.client) := hP6.cell 1
   have r0 : w6.cell? ⟨TT + 1, 0, none⟩ = some (.int .i64 r5.code) := hE6.cell 0
   clear hT6 hE6 hP6 hTs hOs hT5 hO5 hE5 hPs hx6 hnl
   cases v1 : (c.op == 3) <;> cases v2 : (c.op == 4) <;> cases v3 : (r5.code == 0) <;> cases v4 : (c.client == 0) <;> (go_wp2_with (first | go_skip | go_guarded); go_meet; exact ⟨by simp [v1, v2, v3, v4], rfl⟩)
  case rest =>
   obtain ⟨rfl, rfl⟩ := hcut
   have HASK := Lib.hid (show ((c.op == 3 || c.op == 4) && (r5.code == 0) && (c.client == 0)) = true → Fsm.Dl s5.data c.job.id from fun e => by simp only [Bool.and_eq_true] at e; exact HAS.out e.1.1 (by simpa using e.2) (by simpa using e.1.2))
   generalize ((c.op == 3 || c.op == 4) && (r5.code == 0) && (c.client == 0)) = ask at HASK ⊢
   have hsl := (hO5.AY hx6).slE
   have hkE9 : s5.nE ≤ 67108864 := by omega
   have p3 : wc.cell? ⟨P, 3, none⟩ = some (.int .i64 c.job.id) := hP6.cell 3
   go_upto_region 13 with (first | go_skip | go_guarded | ((with_reducible refine isW ?_); refine Ae rfl 30 _ rfl STStore TT rfl s5.arr (show Blk _ _ 30 _ from hT6) rfl ?_) | (go_at_call 25; (with_reducible refine (JL s5.AE s5.nE s5.cE s5.evals c.job.id wc hsl hkE9 _ _ _ _ _ _ _ _).mono ?_); rintro e w7 ⟨rfl, hx7⟩))
   have HIE : Hid (∃ z : Int, Cn (fun y : EvalD => y.job == c.job.id) s5.evals = z) := Lib.hid ⟨_, rfl⟩
   obtain ⟨ie, hie⟩ := HIE.out
   rw [hie]
   have HI := Lib.hid hie
   clear hie HIE p3
   have hx57 := hx6.tr hx7
   clear hsl hx7
   go_cut [120] from 97 to 119 (fun e wx => e = .bool false ∧ wx = w7)
   case first =>
    clear hTs hOs hE5 hPs hT6 hE6 hP6
    cases ask with
    | false => (go_wp2_with (first | go_skip | go_guarded); go_meet; exact ⟨rfl, rfl⟩)
    | true =>
     obtain ⟨i, yi, hii, hyi, hsti, hixi⟩ := JM HS5.out.evs (HASK.out rfl)
     have hli : i < s5.nE := by rw [hO5.el]; exact (List.getElem?_eq_some_iff.1 hyi).1
     obtain ⟨hjni, ge, oe, hAi, hcei⟩ := hO5.slE.get hx57 hli
     rw [(List.getElem?_eq_some_iff.1 hyi).2] at hcei
     have b2 : w7.cell? ⟨ge, oe + i * 4 + 2, none⟩ = some (.int .i64 1) := by rw [← hsti]; exact hcei 2 _ rfl
     have b3 : w7.cell? ⟨ge, oe + i * 4 + 3, none⟩ = some (.int .i64 ((ln : Int) + 1)) := by rw [← HIX.out, ← hixi]; exact hcei 3 _ rfl
     have n6 : w7.cell? ⟨TT, 6, none⟩ = some (.slice (some ⟨ge, oe, none⟩) s5.nE s5.cE) := by rw [← hAi]; exact (hT5.e0 hx57).cell 6
     have hidi : decide ((i : Int) < 0) = false := by simp
     have hi0i : (0 : Int) ≤ (i : Int) := by omega
     have hi1i : (i : Int) < s5.nE := by omega
     have veqi : (((ln : Int) + 1) != ((ln : Int) + 1)) = false := by simp
     have hii : ie = (i : Int) := HI.out.symm.trans hii
     subst hii
     clear hyi hsti hixi hcei hAi hli hjni HI HASK HAS HEN
     go_wp2_with (first | go_skip | go_guarded)
     go_meet
     exact ⟨rfl, rfl⟩
   case rest =>
    obtain ⟨rfl, rfl⟩ := hcut
    have hx7 := hx57
    clear hx57 HI HASK HAS hT6 hE6 hP6 hx6
    go_wp2
    go_loopw [12] (fun ki wr => ∃ k : Nat, k ≤ sV.nA ∧ ki = .int .i64 k ∧ Ext Nothing w5 wr) (fun ki _ => sV.nA - (intOf ki).toNat)
    case atStart => exact ⟨0, Nat.zero_le _, rfl, hx7⟩
    case round =>
     clear hx7
     obtain ⟨k, hk, rfl, hx⟩ := hrel
     have m5 : wr.cell? ⟨T, 5, none⟩ = some (.slice sV.AA sV.nA sV.cA) := (hTs.e0 hx).cell 5
     by_cases hlt : k < sV.nA
     ·obtain ⟨hjn, g, offa, hAe, hace⟩ := hOs.slA.get hx hlt
      have hym : sV.allocs[k] ∈ sV.data.allocs := List.getElem_mem hjn
      generalize sV.allocs[k] = x at hace hym
      rw [hAe] at m5
      have HYM := Lib.hid hym
      have HTK := Lib.hid hlt
      have hk0 : (0 : Int) ≤ (k : Int) := by omega
      have hk1 : (k : Int) < sV.nA := by omega
      have hsl := (hO5.AY hx).slA
      have hkA9 : s5.nA ≤ 67108864 := by omega
      have a0 : wr.cell? ⟨g, offa + k * 11, none⟩ = some (.int .i64 x.id) := hace 0 _ rfl
      have a10 : wr.cell? ⟨g, offa + k * 11 + 10, none⟩ = some (.int .i64 x.state) := hace 10 _ rfl
      have hTT := hT5.e0 hx
      clear hAe hace hym hlt
      go_upto_region 18 with (first | go_skip | go_guarded)
      rcases AC (fun y : Ac => y.id == x.id) s5.allocs with ⟨hi, _, _⟩ | ⟨i, y, hi, hyi, hp, _, _⟩
      ·have HI := Lib.hid hi
       clear hi
       refine AF (by kernel_rfl) (by kernel_rfl) ?_
       repeat (first | go_big_quiet_skip | (go_big_quiet_want; (first | ((refine Bp rfl ?_); (first | (refine Ah (p := ⟨TT, 0, none⟩) (v := .agg s5.arr) ?_ ?_ ?_; (focus rfl); (focus (intro W' hW; exact Ay rfl STStore (by go_simp) (hTT.e0 hW) rfl; done))) | (refine Ah (p := ⟨T, 5, none⟩) (v := .slice (some ⟨g, offa, none⟩) sV.nA sV.cA) ?_ ?_ ?_; (focus rfl); (focus (intro W' hW; have q := hW.c0 m5; go_simp; done))) | (refine Ah (p := ⟨g, offa + k * 11, none⟩) (v := .int .i64 x.id) ?_ ?_ ?_; (focus rfl); (focus (intro W' hW; have q := hW.c0 a0; go_simp; done)))); (try simp only [Act.put, zA, zB, zC, zD, zE, zF])) | ((refine BB rfl ?_); (first | (refine Ao (f := 23) (args := #[.agg s5.arr, .int .i64 x.id]) (v := .int .i64 (-1)) ?_ ?_ ?_; (focus (intro W' hW; go_simp; done)); (focus (intro W' hW; refine (EK s5.AA s5.nA s5.cA s5.allocs x.id W' (hsl.Ar hW) hkA9 _ _ _ _ _ _ _ _).mono ?_; intro e w' hcc; obtain ⟨he, hxu⟩ := hcc; refine ⟨?_, hxu⟩; rw [he, HI.out]; done)))); (try simp only [Act.put, zA, zB, zC, zD, zE, zF])) | go_big_quiet_op); go_big_quiet_on))
       refine wpQuiet_nil ?_
       intro w6 hx6
       have hxn := hx.tr hx6
       have m5 := hx6.c0 m5
       have a10 := hx6.c0 a10
       clear a0
       go_wp2_with (first | go_skip | go_guarded)
       go_roundw
       case rel => exact ⟨k + 1, HTK.out, by go_num, hxn⟩
       case measure => have := HTK.out; simp [intOf]; omega
      have HI := Lib.hid hi
      have HYI := Lib.hid hyi
      have hidd := Lib.hid (show y.id = x.id by simpa using hp)
      clear hi hp
      refine AF (by kernel_rfl) (by kernel_rfl) ?_
      repeat (first | go_big_quiet_skip | (go_big_quiet_want; (first | ((refine Bp rfl ?_); (first | (refine Ah (p := ⟨TT, 0, none⟩) (v := .agg s5.arr) ?_ ?_ ?_; (focus rfl); (focus (intro W' hW; exact Ay rfl STStore (by go_simp) (hTT.e0 hW) rfl; done))) | (refine Ah (p := ⟨T, 5, none⟩) (v := .slice (some ⟨g, offa, none⟩) sV.nA sV.cA) ?_ ?_ ?_; (focus rfl); (focus (intro W' hW; have q := hW.c0 m5; go_simp; done))) | (refine Ah (p := ⟨g, offa + k * 11, none⟩) (v := .int .i64 x.id) ?_ ?_ ?_; (focus rfl); (focus (intro W' hW; have q := hW.c0 a0; go_simp; done)))); (try simp only [Act.put, zA, zB, zC, zD, zE, zF])) | ((refine BB rfl ?_); (first | (refine Ao (f := 23) (args := #[.agg s5.arr, .int .i64 x.id]) (v := .int .i64 (i : Int)) ?_ ?_ ?_; (focus (intro W' hW; go_simp; done)); (focus (intro W' hW; refine (EK s5.AA s5.nA s5.cA s5.allocs x.id W' (hsl.Ar hW) hkA9 _ _ _ _ _ _ _ _).mono ?_; intro e w' hcc; obtain ⟨he, hxu⟩ := hcc; refine ⟨?_, hxu⟩; rw [he, HI.out]; done)))); (try simp only [Act.put, zA, zB, zC, zD, zE, zF])) | go_big_quiet_op); go_big_quiet_on))
      refine wpQuiet_nil ?_
      intro w6 hx6
      have hxn := hx.tr hx6
      have m5 := hx6.c0 m5
      have a10 := hx6.c0 a10
      clear a0
      have hli : i < s5.nA := by rw [hO5.al]; exact (List.getElem?_eq_some_iff.1 hyi).1
      obtain ⟨hjni, gy, oy, hAy, hyce⟩ := hO5.slA.get hxn hli
      rw [(List.getElem?_eq_some_iff.1 hyi).2] at hyce
      have n5 : w6.cell? ⟨TT, 5, none⟩ = some (.slice (some ⟨gy, oy, none⟩) s5.nA s5.cA) := by rw [← hAy]; exact (hT5.e0 hxn).cell 5
      have y10 : w6.cell? ⟨gy, oy + i * 11 + 10, none⟩ = some (.int .i64 y.state) := hyce 10 _ rfl
      have y1 : w6.cell? ⟨gy, oy + i * 11 + 1, none⟩ = some (.int .i64 y.job) := hyce 1 _ rfl
      have hid : decide ((i : Int) < 0) = false := by simp
      have hi0 : (0 : Int) ≤ (i : Int) := by omega
      have hi1 : (i : Int) < s5.nA := by omega
      clear hyi hAy hyce hli hjni
      cases v1 : decide (3 ≤ x.state) with
      | true =>
       go_wp2_with (first | go_skip | go_guarded)
       go_roundw
       case rel => exact ⟨k + 1, HTK.out, by go_num, hxn⟩
       case measure => have := HTK.out; simp [intOf]; omega
      | false =>
       cases v2 : decide (y.state < 3) with
       | true =>
        go_wp2_with (first | go_skip | go_guarded)
        go_roundw
        case rel => exact ⟨k + 1, HTK.out, by go_num, hxn⟩
        case measure => have := HTK.out; simp [intOf]; omega
       | false =>
        have HFR := Lib.hid (HEN.out x HYM.out y (List.mem_of_getElem? HYI.out) hidd.out v1 (by show decide (3 ≤ y.state) = true; simp at v2 ⊢; omega))
        obtain ⟨j, yj, hij, hyj, hstj, hixj⟩ := JM HS5.out.evs HFR.out
        have HJ := Lib.hid hij
        have HYJ := Lib.hid hyj
        have HST := Lib.hid hstj
        have HXJ := Lib.hid hixj
        clear hij hyj hstj hixj
        have hsE := (hO5.AY hxn).slE
        have hkE9 : s5.nE ≤ 67108864 := by omega
        have hT6 := hT5.e0 hxn
        go_upto_region 20 with (first | go_skip | go_guarded)
        refine AF (by kernel_rfl) (by kernel_rfl) ?_
        repeat (first | go_big_quiet_skip | (go_big_quiet_want; (first | ((refine Bp rfl ?_); (first | (refine Ah (p := ⟨TT, 0, none⟩) (v := .agg s5.arr) ?_ ?_ ?_; (focus rfl); (focus (intro W' hW; exact Ay rfl STStore (by go_simp) (hT6.e0 hW) rfl; done))) | (refine Ah (p := ⟨TT, 5, none⟩) (v := .slice (some ⟨gy, oy, none⟩) s5.nA s5.cA) ?_ ?_ ?_; (focus rfl); (focus (intro W' hW; have q := hW.c0 n5; go_simp; done))) | (refine Ah (p := ⟨gy, oy + i * 11 + 1, none⟩) (v := .int .i64 y.job) ?_ ?_ ?_; (focus rfl); (focus (intro W' hW; have q := hW.c0 y1; go_simp; done)))); (try simp only [Act.put, zA, zB, zC, zD, zE, zF])) | ((refine BB rfl ?_); (first | (refine Ao (f := 25) (args := #[.agg s5.arr, .int .i64 y.job]) (v := .int .i64 (j : Int)) ?_ ?_ ?_; (focus (intro W' hW; go_simp; done)); (focus (intro W' hW; refine (JL s5.AE s5.nE s5.cE s5.evals y.job W' (hsE.Ar hW) hkE9 _ _ _ _ _ _ _ _).mono ?_; intro e w' hcc; obtain ⟨he, hxu⟩ := hcc; refine ⟨?_, hxu⟩; rw [he, HJ.out]; done)))); (try simp only [Act.put, zA, zB, zC, zD, zE, zF])) | go_big_quiet_op); go_big_quiet_on))
        refine wpQuiet_nil ?_
        intro w8 hx8
        have hxm := hxn.tr hx8
        have hyj := HYJ.out
        have hlj : j < s5.nE := by rw [hO5.el]; exact (List.getElem?_eq_some_iff.1 hyj).1
        obtain ⟨hjnj, ge, oe, hAj, hcej⟩ := hO5.slE.get hxm hlj
        rw [(List.getElem?_eq_some_iff.1 hyj).2] at hcej
        have b2 : w8.cell? ⟨ge, oe + j * 4 + 2, none⟩ = some (.int .i64 1) := by rw [← HST.out]; exact hcej 2 _ rfl
        have b3 : w8.cell? ⟨ge, oe + j * 4 + 3, none⟩ = some (.int .i64 ((ln : Int) + 1)) := by rw [← HIX.out, ← HXJ.out]; exact hcej 3 _ rfl
        have n6 : w8.cell? ⟨TT, 6, none⟩ = some (.slice (some ⟨ge, oe, none⟩) s5.nE s5.cE) := by rw [← hAj]; exact (hT5.e0 hxm).cell 6
        have hidj : decide ((j : Int) < 0) = false := by simp
        have hj0 : (0 : Int) ≤ (j : Int) := by omega
        have hj1 : (j : Int) < s5.nE := by omega
        have veq : (((ln : Int) + 1) != ((ln : Int) + 1)) = false := by simp
        clear hyj hAj hcej hlj hjnj hsE m5 a10 n5 y10 y1 hT6
        go_wp2_with (first | go_skip | go_guarded)
        go_roundw
        case rel => exact ⟨k + 1, HTK.out, by go_num, hxm⟩
        case measure => have := HTK.out; simp [intOf]; omega
     have hnl2 : ¬ ((k : Int) < sV.nA) := by omega
     go_wp2_with (first | go_skip | go_guarded | (go_at_call 17; (with_reducible refine (KG _).mono ?_); rintro e w9 ⟨rfl, hx9⟩))
     go_ret
     exact ⟨rfl, (hxw5.tr hx).tr hx9⟩
end Go.Proofs.YtccekmeifanipaaGreat
