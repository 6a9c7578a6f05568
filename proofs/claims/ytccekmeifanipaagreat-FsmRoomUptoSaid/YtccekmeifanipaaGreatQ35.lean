/- Parts of the proof: Room -/
import Derived.Test.YtccekmeifanipaaGreatQ34
import Derived.Test.YtccekmeifanipaaGreatQ14
import Derived.Test.YtccekmeifanipaaGreatQ04
import Derived.Test.YtccekmeifanipaaGreatQ12
namespace Go.Proofs.YtccekmeifanipaaGreat
set_option linter.unusedVariables false
set_option linter.unusedSimpArgs false
set_option linter.unusedSectionVars false
open Go.RowKit
set_option maxRecDepth 20000 in
set_option maxHeartbeats 16000000 in
theorem Pi (LA : Option Addr) (ln lc : Nat) (l : List Bh) (w : World) (hl : Sl w 27 LA ln (l.map Bh.cells)) (hr : ∀ c ∈ l, c.Read w) (hn : ln ≤ 1048576) :
  Calls Tryz.prog 3 #[.slice LA ln lc] w fun e w' => e = .returned (.bool true) ∧ Ext Nothing w w' := by
 go_enter Tryz.func3, Tryz.ntmps3
 have hln := Lib.hid hl.len
 go_upto_region 2 with (first | go_skip | go_guarded | (go_at_call 14; (with_reducible refine (QI w).mono ?_); rintro e w1 ⟨rfl, hx1⟩))
 have hxT : Ext Nothing w1 (w1.alloc (.cells #[.int .i64 0, .int .i64 1, .slice none 0 0, .slice none 0 0, .slice none 0 0, .slice none 0 0, .slice none 0 0, .slice none 0 0, .slice none 0 0] 30)) := Ext.Au
 have hT0 : Blk (w1.alloc (.cells #[.int .i64 0, .int .i64 1, .slice none 0 0, .slice none 0 0, .slice none 0 0, .slice none 0 0, .slice none 0 0, .slice none 0 0, .slice none 0 0] 30)) w1.heap.size 30 EQ.arr := Blk.new _ _ _
 have hzT : w.heap.size ≤ w1.heap.size := hx1.size
 have hx0 := hx1.tr hxT
 generalize hTT : w1.heap.size = T at hT0 hzT ⊢
 generalize (w1.alloc (.cells #[.int .i64 0, .int .i64 1, .slice none 0 0, .slice none 0 0, .slice none 0 0, .slice none 0 0, .slice none 0 0, .slice none 0 0, .slice none 0 0] 30)) = w2 at hT0 hx0 ⊢
 clear hxT hx1 hTT
 have hO0 : Aw w.heap.size w2 EQ := IB _ _
 go_wp2
 go_loopw [4] (fun ki wr => ∃ t : Nat, t ≤ ln ∧ ki = .int .i64 t ∧ ∃ sV : Aa, Aw w.heap.size wr sV ∧ Fsm.IM t sV.data ∧ Blk wr T 30 sV.arr ∧ Ext Nothing w wr) (fun ki _ => ln - (intOf ki).toNat)
 case atStart => exact ⟨0, Nat.zero_le _, rfl, EQ, hO0, Fsm.JB, hT0, hx0⟩
 case round =>
  obtain ⟨t, ht, rfl, sV, hO, hG, hT, hx⟩ := hrel
  clear hO0 hT0 hx0
  by_cases hlt : t < ln
  ·obtain ⟨hjn, b, off, hLe, hce⟩ := hl.get hx hlt
   have hrd := hr _ (List.getElem_mem hjn)
   generalize l[t] = c at hce hrd
   subst hLe
   have hk0 : (0 : Int) ≤ (t : Int) := by omega
   have hk1 : (t : Int) < ln := by omega
   have HW := Lib.hid (show wrap64 ((t : Int) + 1) = (t : Int) + 1 by unfold wrap64; omega)
   have HT := Lib.hid hlt
   have HG := Lib.hid hG
   have hbw : b < w.heap.size := by obtain ⟨q, hq⟩ := hl.blk (show 0 < ln by omega); exact hq
   have HCE := Lib.hid (show ∀ j u, c.arr.toList[j]? = some u → wr.cell? ⟨b, off + t * 27 + j, none⟩ = some u from hce)
   clear hce hG hlt
   go_upto_region 5 with (first | go_skip | go_guarded)
   have hd : Ext Nothing wr wr.drew := (Ext.refl _ _).drew
   refine zS (S := fun W' => Ext (fun q => q = T) wr W') (by kernel_rfl) ?_
   have hS := hd.any (S := fun q => q = T)
   generalize wr.drew = Wd at hd hS ⊢
   refine zV 1 (.int .i64 (t : Int)) rfl (by kernel_rfl) hS (fun _ _ _ h => h) (fun W' hS' => by go_simp) ?_
   refine zV 2 (.int .i64 (wrap64 ((t : Int) + 1))) rfl (by kernel_rfl) hS (fun _ _ _ h => h) (fun W' hS' => by go_simp; rw [IntKind.wrap_i64]; have := HT.out; unfold wrap64; omega) ?_
   refine zV 3 (.slice (some ⟨b, off, none⟩) ln lc) rfl (by kernel_rfl) hS (fun _ _ _ h => h) (fun W' hS' => by go_simp) ?_
   refine zV 4 (.int .i64 (t : Int)) rfl (by kernel_rfl) hS (fun _ _ _ h => h) (fun W' hS' => by go_simp) ?_
   refine zV 5 (.pointer (some ⟨b, off + t * 27, none⟩)) rfl (by kernel_rfl) hS (fun _ _ _ h => h) (fun W' hS' => by go_simp) ?_
   refine zV 6 (.agg c.arr) rfl (by kernel_rfl) hS (fun _ _ _ h => h) (fun W' hS' => by exact Af (sz := 27) (b := b) (off := off + t * 27) rfl J2 (by go_simp) (fun j u hu => hS'.cell (HCE.out j u hu) (fun e => absurd (show b = T from e) (by omega))) rfl) ?_
   refine zV 7 (.agg (c.ent (wrap64 ((t : Int) + 1)) 1)) rfl (by kernel_rfl) hS (fun _ _ _ h => h) (fun W' hS' => by go_simp) ?_
   (try simp only [Act.put, zA, zB, zC, zD, zE, zF])
   have hTq := hT.e0 hd
   have hOq := hO.Bu hd
   have hxq := hx.tr hd
   have hcq := hrd.Rk hxq
   refine zO 0 (by kernel_rfl) ?_
   refine wpOp_val (v := .agg sV.arr) (w' := Wd) rfl (by rfl) (by exact AB rfl Al (by go_simp) hTq rfl) ⟨hS, ?_⟩
   (try simp only [Act.put, zA, zB, zC, zD, zE, zF])
   refine zO 8 (by kernel_rfl) ?_
   refine Ak (f := 15) (args := #[.agg sV.arr, .agg (c.ent (wrap64 ((t : Int) + 1)) 1)]) rfl (by rfl) (by go_simp) ((FO (base := w.heap.size) (t := t) (w := Wd) (s := sV) (c := c) (ix := (wrap64 ((t : Int) + 1))) 1 hOq HG.out.g hcq hrd.op (by have := HT.out; omega) (by have := HT.out; rw [HW.out]; omega) (by rw [HW.out]; omega)).mono ?_)
   rintro e w2 ⟨s2, r2, rv2, rfl, hO2, hF2, hres2, hx2⟩
   have hT2 := hTq.e0 hx2
   have hS2 := hS.trans hx2 (fun _ _ e => e.elim)
   have HG2 := Lib.hid (show Fsm.IM (t + 1) s2.data by have h9 := Fsm.IG HG.out (by have := HT.out; omega) hrd.Lj; rw [← HW.out, hF2] at h9; exact h9)
   have HF2 := Lib.hid hF2
   clear hF2
   refine ⟨_, rfl, hS2, ?_⟩
   (try simp only [Act.put, zA, zB, zC, zD, zE, zF])
   refine zO 9 (by kernel_rfl) ?_
   refine wpOp_val (v := .tuple #[.agg s2.arr, .agg #[.int .i64 r2.code, .int .i64 r2.value, rv2]]) (w' := w2) rfl (by rfl) (by go_simp) ⟨hS2, ?_⟩
   (try simp only [Act.put, zA, zB, zC, zD, zE, zF])
   refine zV 10 (.agg s2.arr) rfl (by kernel_rfl) hS2 (fun _ _ _ h => h) (fun W' hS' => by go_simp) ?_
   refine zV 11 (.agg #[.int .i64 r2.code, .int .i64 r2.value, rv2]) rfl (by kernel_rfl) hS2 (fun _ _ _ h => h) (fun W' hS' => by go_simp) ?_
   (try simp only [Act.put, zA, zB, zC, zD, zE, zF])
   refine zO 12 (by kernel_rfl) ?_
   refine Bi (p := T) (cs := s2.arr) rfl (by rfl) rfl (by go_simp) (by go_simp) hT2 rfl Al rfl rfl (fun w5 hB5 hx5 => ?_)
   have hS5 := hS2.trans hx5 (fun q hq e => e)
   refine ⟨hS5, wpAnyH_done (by kernel_rfl) ?_ _⟩
   (try simp only [Act.put, zA, zB, zC, zD, zE, zF])
   have hO5 := (hO2.base hxq.size).keep hx5 (Apart.one hT2 (by decide))
   have hx5w : Ext Nothing w w5 := hx.trans hS5 (fun b hb e => absurd (show b = T from e) (by omega))
   clear hd hS hS2 hS5 hTq hOq hxq hcq hT2 hx2 hO2 hx5 hres2 hT hO hx
   obtain ⟨ql1, ql2, ql3, ql4, ql5, ql6, ql7⟩ := Gz HG2.out.g (show t + 1 ≤ 1048576 by have := HT.out; omega)
   have hnJ : s2.nJ ≤ 1048576 := by have := hO5.jl; have := HT.out; omega
   have hnS : s2.nS ≤ 1048576 := by have := hO5.tl; have := HT.out; omega
   have hnN : s2.nN ≤ 1048576 := by have := hO5.nl; have := HT.out; omega
   have hnA : s2.nA ≤ 64 := by have := hO5.al; omega
   have hnE : s2.nE ≤ 1048576 := by have := hO5.el; have := HT.out; omega
   have hnD : s2.nD ≤ 1048576 := by have := hO5.dl; have := HT.out; omega
   clear ql1 ql2 ql3 ql4 ql5 ql6 ql7
   go_wp2
   go_loopw [5] (fun ki wr => ∃ k : Nat, k ≤ s2.nN ∧ ki = .int .i64 k ∧ Ext Nothing w5 wr) (fun ki _ => s2.nN - (intOf ki).toNat)
   case atStart => exact ⟨0, Nat.zero_le _, rfl, Ext.refl _ _⟩
   case round =>
    obtain ⟨k, hk, rfl, hx⟩ := hrel
    have m4 : wr.cell? ⟨T, 4, none⟩ = some (.slice s2.AN s2.nN s2.cN) := (hB5.e0 hx).cell 4
    by_cases hlt : k < s2.nN
    ·obtain ⟨hjn, bn, offn, hAe, hnce⟩ := hO5.slN.get hx hlt
     obtain ⟨rr, hrf, hr1, hr2⟩ := Fsm.NK HG2.out.i (show s2.nodes[k] ∈ s2.data.nodes from List.getElem_mem hjn)
     generalize s2.nodes[k] = n at hnce hrf hr1 hr2
     obtain ⟨n0, ⟨n1, n2⟩, n3, n4, n5, n6, n7⟩ := n
     rw [hAe] at m4
     have hce : ∀ j u, (#[.int .i64 n0, .int .i64 n1, .int .i64 n2, .bool n3, .bool n4, .int .i64 n5, .int .i64 n6, .int .i64 n7] : Array Value).toList[j]? = some u → wr.cell? ⟨bn, offn + k * 8 + j, none⟩ = some u := hnce
     have HTK := Lib.hid hlt
     have hk0 : (0 : Int) ≤ (k : Int) := by omega
     have hk1 : (k : Int) < s2.nN := by omega
     have HRF := Lib.hid (show s2.allocs.foldl (Fsm.Cv n0) (some ⟨0, 0⟩) = some rr from hrf)
     have HR1 := Lib.hid (show rr.cpu ≤ n1 from hr1)
     have HR2 := Lib.hid (show rr.mem ≤ n2 from hr2)
     clear hAe hnce hrf hr1 hr2 hlt
     have hxU : Ext Nothing wr ((wr.alloc (.cells #[.int .i64 n0, .int .i64 n1, .int .i64 n2, .bool n3, .bool n4, .int .i64 n5, .int .i64 n6, .int .i64 n7] 43)).alloc (.cells #[.int .i64 0, .int .i64 0] 41)) := Ext.Au
     have hN : Blk ((wr.alloc (.cells #[.int .i64 n0, .int .i64 n1, .int .i64 n2, .bool n3, .bool n4, .int .i64 n5, .int .i64 n6, .int .i64 n7] 43)).alloc (.cells #[.int .i64 0, .int .i64 0] 41)) wr.heap.size 43 #[.int .i64 n0, .int .i64 n1, .int .i64 n2, .bool n3, .bool n4, .int .i64 n5, .int .i64 n6, .int .i64 n7] := (Blk.new wr _ _).e0 Ext.Au
     have hU : Blk ((wr.alloc (.cells #[.int .i64 n0, .int .i64 n1, .int .i64 n2, .bool n3, .bool n4, .int .i64 n5, .int .i64 n6, .int .i64 n7] 43)).alloc (.cells #[.int .i64 0, .int .i64 0] 41)) (wr.heap.size + 1) 41 #[.int .i64 0, .int .i64 0] := Blk.new' _ _ _ (by simp)
     have hxU5 := hx.tr hxU
     have hzU : w5.heap.size ≤ wr.heap.size := hx.size
     have hT5 := hB5.lt
     go_upto_region 11 with (first | go_skip | go_guarded | ((with_reducible refine isW ?_); refine Ad rfl 43 _ rfl Bz bn (offn + k * 8) rfl #[.int .i64 n0, .int .i64 n1, .int .i64 n2, .bool n3, .bool n4, .int .i64 n5, .int .i64 n6, .int .i64 n7] hce rfl ?_))
     clear m4 hce hxU
     generalize wr.heap.size = Nb at hN hU hzU ⊢
     generalize hUU : Nb + 1 = U at hU ⊢
     have hzU2 : w5.heap.size ≤ U := by omega
     clear hUU
     generalize ((wr.alloc (.cells #[.int .i64 n0, .int .i64 n1, .int .i64 n2, .bool n3, .bool n4, .int .i64 n5, .int .i64 n6, .int .i64 n7] 43)).alloc (.cells #[.int .i64 0, .int .i64 0] 41)) = wU at hN hU hxU5 ⊢
     go_wp2
     go_loopw [8] (fun ji wr => ∃ (j : Nat) (u : BJ), j ≤ s2.nA ∧ ji = .int .i64 j ∧ Blk wr Nb 43 #[.int .i64 n0, .int .i64 n1, .int .i64 n2, .bool n3, .bool n4, .int .i64 n5, .int .i64 n6, .int .i64 n7] ∧ Blk wr U 41 #[.int .i64 u.cpu, .int .i64 u.mem] ∧ Hid ((s2.allocs.take j).foldl (Fsm.Cv n0) (some ⟨0, 0⟩) = some u) ∧ Ext (fun q => q = U) wU wr) (fun ji _ => s2.nA - (intOf ji).toNat)
     case atStart => exact ⟨0, ⟨0, 0⟩, Nat.zero_le _, rfl, hN, hU, Lib.hid rfl, Ext.refl _ _⟩
     case round =>
      obtain ⟨j, u, hj, rfl, hNj, hUj, hfold, hxj⟩ := hrel
      have hBj : Blk wr T 30 s2.arr := (hB5.e0 hxU5).ext hxj (fun e => absurd (show T = U from e) (by omega))
      have hOj := (hO5.Bu hxU5).keep hxj (Apart.one hU (by decide))
      have hx5j : Ext Nothing w5 wr := hxU5.trans hxj (fun q hq e => absurd (show q = U from e) (by omega))
      have m5 : wr.cell? ⟨T, 5, none⟩ = some (.slice s2.AA s2.nA s2.cA) := hBj.cell 5
      by_cases hltj : j < s2.nA
      ·obtain ⟨hja, g, offa, hAe, hace⟩ := hOj.slA.get (Ext.refl Nothing wr) hltj
       have hty := DF (Fsm.Cv n0) (some ⟨0, 0⟩) s2.allocs j hja
       rw [hfold.out] at hty
       obtain ⟨u2, hu2⟩ := Fsm.M8 n0 s2.allocs HRF.out (j + 1)
       rw [hty] at hu2
       generalize s2.allocs[j] = y at hace hty hu2
       obtain ⟨y0, y1, y2, y3, y4, y5, y6, ⟨y7, y8⟩, y9, y10⟩ := y
       rw [hAe] at m5
       have f5 : wr.cell? ⟨g, offa + j * 11 + 5, none⟩ = some (.int .i64 y5) := hace 5 _ rfl
       have f10 : wr.cell? ⟨g, offa + j * 11 + 10, none⟩ = some (.int .i64 y10) := hace 10 _ rfl
       have f7 : wr.cell? ⟨g, offa + j * 11 + 7, none⟩ = some (.int .i64 y7) := hace 7 _ rfl
       have f8 : wr.cell? ⟨g, offa + j * 11 + 7 + 1, none⟩ = some (.int .i64 y8) := hace 8 _ rfl
       have p0 : wr.cell? ⟨Nb, 0, none⟩ = some (.int .i64 n0) := hNj.cell 0
       have HTJ := Lib.hid hltj
       have HTY := Lib.hid hty
       have HU2 := Lib.hid hu2
       have hj0 : (0 : Int) ≤ (j : Int) := by omega
       have hj1 : (j : Int) < s2.nA := by omega
       clear hAe hace hty hu2 hltj
       go_upto_region 14 with (first | go_skip | go_guarded)
       cases e1 : (y5 != n0) with
       | true =>
        have HS := Lib.hid (show (s2.allocs.take (j + 1)).foldl (Fsm.Cv n0) (some ⟨0, 0⟩) = some u by rw [HTY.out]; unfold Fsm.Cv; rw [if_pos (by show (y5 != n0 || _) = true; rw [e1]; rfl)])
        refine AC (by kernel_rfl) (by kernel_rfl) ?_
        repeat (first | go_big_quiet_skip | (go_big_quiet_want; (first | ((refine Bn rfl ?_); (first | (refine Ag (p := ⟨T, 5, none⟩) (v := .slice (some ⟨g, offa, none⟩) s2.nA s2.cA) ?_ ?_ ?_; (focus rfl); (focus (intro W' hW; have q := hW.c0 m5; go_simp; done))) | (refine Ag (p := ⟨g, offa + j * 11 + 5, none⟩) (v := .int .i64 y5) ?_ ?_ ?_; (focus rfl); (focus (intro W' hW; have q := hW.c0 f5; go_simp; done))) | (refine Ag (p := ⟨Nb, 0, none⟩) (v := .int .i64 n0) ?_ ?_ ?_; (focus rfl); (focus (intro W' hW; have q := hW.c0 p0; go_simp; done))) | (refine Ag (p := ⟨g, offa + j * 11 + 10, none⟩) (v := .int .i64 y10) ?_ ?_ ?_; (focus rfl); (focus (intro W' hW; have q := hW.c0 f10; go_simp; done)))); (try simp only [Act.put, zA, zB, zC, zD, zE, zF]); (try simp only [e1])) | go_big_quiet_op); go_big_quiet_on))
        refine wpQuiet_nil ?_
        intro wq hxq
        go_wp2_with (first | go_skip | go_guarded)
        go_roundw
        case rel => exact ⟨j + 1, u, HTJ.out, by go_num, hNj.e0 hxq, hUj.e0 hxq, HS, hxj.trans hxq (fun _ _ e => e.elim)⟩
        case measure => have := HTJ.out; simp [intOf]; omega
       | false =>
        cases e2 : decide (3 ≤ y10) with
        | true =>
         have HS := Lib.hid (show (s2.allocs.take (j + 1)).foldl (Fsm.Cv n0) (some ⟨0, 0⟩) = some u by rw [HTY.out]; unfold Fsm.Cv; rw [if_pos (by show (y5 != n0 || decide (3 ≤ y10)) = true; rw [e1, e2]; rfl)])
         refine AC (by kernel_rfl) (by kernel_rfl) ?_
         repeat (first | go_big_quiet_skip | (go_big_quiet_want; (first | ((refine Bn rfl ?_); (first | (refine Ag (p := ⟨T, 5, none⟩) (v := .slice (some ⟨g, offa, none⟩) s2.nA s2.cA) ?_ ?_ ?_; (focus rfl); (focus (intro W' hW; have q := hW.c0 m5; go_simp; done))) | (refine Ag (p := ⟨g, offa + j * 11 + 5, none⟩) (v := .int .i64 y5) ?_ ?_ ?_; (focus rfl); (focus (intro W' hW; have q := hW.c0 f5; go_simp; done))) | (refine Ag (p := ⟨Nb, 0, none⟩) (v := .int .i64 n0) ?_ ?_ ?_; (focus rfl); (focus (intro W' hW; have q := hW.c0 p0; go_simp; done))) | (refine Ag (p := ⟨g, offa + j * 11 + 10, none⟩) (v := .int .i64 y10) ?_ ?_ ?_; (focus rfl); (focus (intro W' hW; have q := hW.c0 f10; go_simp; done)))); (try simp only [Act.put, zA, zB, zC, zD, zE, zF]); (try simp only [e1]); (try simp only [e2])) | go_big_quiet_op); go_big_quiet_on))
         refine wpQuiet_nil ?_
         intro wq hxq
         go_wp2_with (first | go_skip | go_guarded)
         go_roundw
         case rel => exact ⟨j + 1, u, HTJ.out, by go_num, hNj.e0 hxq, hUj.e0 hxq, HS, hxj.trans hxq (fun _ _ e => e.elim)⟩
         case measure => have := HTJ.out; simp [intOf]; omega
        | false =>
         have HAD := Lib.hid (show addF u ⟨y7, y8⟩ = some u2 by have h9 := HU2.out; unfold Fsm.Cv at h9; rw [if_neg (by show ¬ (y5 != n0 || decide (3 ≤ y10)) = true; rw [e1, e2]; simp)] at h9; exact h9)
         have HS := Lib.hid (show (s2.allocs.take (j + 1)).foldl (Fsm.Cv n0) (some ⟨0, 0⟩) = some u2 from HTY.out.trans HU2.out)
         refine AC (by kernel_rfl) (by kernel_rfl) ?_
         repeat (first | go_big_quiet_skip | (go_big_quiet_want; (first | ((refine Bn rfl ?_); (first | (refine Ag (p := ⟨T, 5, none⟩) (v := .slice (some ⟨g, offa, none⟩) s2.nA s2.cA) ?_ ?_ ?_; (focus rfl); (focus (intro W' hW; have q := hW.c0 m5; go_simp; done))) | (refine Ag (p := ⟨g, offa + j * 11 + 5, none⟩) (v := .int .i64 y5) ?_ ?_ ?_; (focus rfl); (focus (intro W' hW; have q := hW.c0 f5; go_simp; done))) | (refine Ag (p := ⟨Nb, 0, none⟩) (v := .int .i64 n0) ?_ ?_ ?_; (focus rfl); (focus (intro W' hW; have q := hW.c0 p0; go_simp; done))) | (refine Ag (p := ⟨g, offa + j * 11 + 10, none⟩) (v := .int .i64 y10) ?_ ?_ ?_; (focus rfl); (focus (intro W' hW; have q := hW.c0 f10; go_simp; done)))); (try simp only [Act.put, zA, zB, zC, zD, zE, zF]); (try simp only [e1]); (try simp only [e2])) | go_big_quiet_op); go_big_quiet_on))
         refine wpQuiet_nil ?_
         intro wq hxq
         have m5 := hxq.c0 m5
         have f7 := hxq.c0 f7
         have f8 := hxq.c0 f8
         have hUq := hUj.e0 hxq
         clear f5 f10 p0
         go_upto_region 15 with (first | go_skip | go_guarded)
         (try simp only [Act.put, zA, zB, zC, zD, zE, zF])
         go_upto_region 15 with fail
         go_cut [9, 10] from 68 to 78 (fun e9 e10 wx => ∃ Q, e9 = .pointer (some ⟨Q, 0, none⟩) ∧ e10 = .bool true ∧ Blk wx Q 41 #[.int .i64 u2.cpu, .int .i64 u2.mem] ∧ Ext Nothing wq wx)
         case first =>
          have hd : Ext Nothing wq wq.drew := (Ext.refl _ _).drew
          refine zS (S := fun W' => Ext Nothing wq W') (by kernel_rfl) ?_
          generalize wq.drew = W at hd ⊢
          refine zV 0 (.agg #[.int .i64 u.cpu, .int .i64 u.mem]) rfl (by kernel_rfl) hd (fun _ _ _ h => h) (fun W' hS' => by exact AB rfl STRes2 (by go_simp) (hUq.e0 hS') rfl) ?_
          refine zV 1 (.pointer (some ⟨T, 5, none⟩)) rfl (by kernel_rfl) hd (fun _ _ _ h => h) (fun W' hS' => by go_simp) ?_
          refine zV 2 (.slice (some ⟨g, offa, none⟩) s2.nA s2.cA) rfl (by kernel_rfl) hd (fun _ _ _ h => h) (fun W' hS' => by have q := hS'.c0 m5; go_simp) ?_
          refine zV 3 (.int .i64 (j : Int)) rfl (by kernel_rfl) hd (fun _ _ _ h => h) (fun W' hS' => by go_simp) ?_
          refine zV 4 (.pointer (some ⟨g, offa + j * 11, none⟩)) rfl (by kernel_rfl) hd (fun _ _ _ h => h) (fun W' hS' => by go_simp) ?_
          refine zV 5 (.pointer (some ⟨g, offa + j * 11 + 7, none⟩)) rfl (by kernel_rfl) hd (fun _ _ _ h => h) (fun W' hS' => by go_simp) ?_
          refine zV 6 (.agg #[.int .i64 y7, .int .i64 y8]) rfl (by kernel_rfl) hd (fun _ _ _ h => h) (fun W' hS' => by exact Af (sz := 2) (b := g) (off := offa + j * 11 + 7) rfl STRes2 (by go_simp) (fun j u hu => hS'.c0 (match j, hu with | 0, hu => (by cases hu; exact f7) | 1, hu => (by cases hu; exact f8) | (k + 2), hu => by simp at hu)) rfl) ?_
          (try simp only [Act.put, zA, zB, zC, zD, zE, zF])
          refine wpAnyH_all (rs := [7, 11]) (by kernel_rfl) (by simp) (List.forall_mem_cons.2 ⟨?_, (List.forall_mem_cons.2 ⟨?_, (fun _ h => absurd h (by simp))⟩)⟩)
          (focus
           refine Ak (f := 16) (args := #[.agg #[.int .i64 u.cpu, .int .i64 u.mem], .agg #[.int .i64 y7, .int .i64 y8]]) rfl (by rfl) (by go_simp) ((KN u ⟨y7, y8⟩ W).mono ?_)
           rintro e W9 ⟨rfl, hx2⟩
           rw [HAD.out, show Gd (some u2) = u2 from rfl, show (some u2).isSome = true from rfl]
           replace hd := hd.tr hx2
           clear hx2
           obtain ⟨W, rfl⟩ : ∃ z : World, z = W9 := ⟨_, rfl⟩
           refine ⟨_, rfl, hd, ?_⟩
           (try simp only [Act.put, zA, zB, zC, zD, zE, zF])
           refine zV 8 (.tuple #[.agg #[.int .i64 u2.cpu, .int .i64 u2.mem], .bool true]) rfl (by kernel_rfl) hd (fun _ _ _ h => h) (fun W' hS' => by go_simp) ?_
           refine zV 9 (.agg #[.int .i64 u2.cpu, .int .i64 u2.mem]) rfl (by kernel_rfl) hd (fun _ _ _ h => h) (fun W' hS' => by go_simp) ?_
           refine zV 10 (.bool true) rfl (by kernel_rfl) hd (fun _ _ _ h => h) (fun W' hS' => by go_simp) ?_
           (try simp only [Act.put, zA, zB, zC, zD, zE, zF])
           refine zO 11 (by kernel_rfl) ?_
           refine wpOp_val (v := .pointer (some ⟨W.heap.size, 0, none⟩)) (w' := (W.alloc (.cells #[.int .i64 0, .int .i64 0] 41))) rfl (by rfl) (by go_simp) ⟨hd.tr Ext.Au, ?_⟩
           (try simp only [Act.put, zA, zB, zC, zD, zE, zF])
           have hC : Blk (W.alloc (.cells #[.int .i64 0, .int .i64 0] 41)) W.heap.size 41 #[.int .i64 0, .int .i64 0] := Blk.new _ _ _
           have hal : Ext Nothing W (W.alloc (.cells #[.int .i64 0, .int .i64 0] 41)) := Ext.Au
           have hzQ := hd.size
           replace hd := hd.tr hal
           generalize W.heap.size = Q at hC hzQ ⊢
           generalize (W.alloc (.cells #[.int .i64 0, .int .i64 0] 41)) = W at hC hd ⊢
           clear hal
           )
          rotate_left
          (focus
           refine wpOp_val (v := .pointer (some ⟨W.heap.size, 0, none⟩)) (w' := (W.alloc (.cells #[.int .i64 0, .int .i64 0] 41))) rfl (by rfl) (by go_simp) ⟨hd.tr Ext.Au, ?_⟩
           (try simp only [Act.put, zA, zB, zC, zD, zE, zF])
           have hC : Blk (W.alloc (.cells #[.int .i64 0, .int .i64 0] 41)) W.heap.size 41 #[.int .i64 0, .int .i64 0] := Blk.new _ _ _
           have hal : Ext Nothing W (W.alloc (.cells #[.int .i64 0, .int .i64 0] 41)) := Ext.Au
           have hzQ := hd.size
           replace hd := hd.tr hal
           generalize W.heap.size = Q at hC hzQ ⊢
           generalize (W.alloc (.cells #[.int .i64 0, .int .i64 0] 41)) = W at hC hd ⊢
           clear hal
           refine zO 7 (by kernel_rfl) ?_
           refine Ak (f := 16) (args := #[.agg #[.int .i64 u.cpu, .int .i64 u.mem], .agg #[.int .i64 y7, .int .i64 y8]]) rfl (by rfl) (by go_simp) ((KN u ⟨y7, y8⟩ W).mono ?_)
           rintro e W9 ⟨rfl, hx2⟩
           rw [HAD.out, show Gd (some u2) = u2 from rfl, show (some u2).isSome = true from rfl]
           replace hd := hd.tr hx2
           replace hC := hC.e0 hx2
           clear hx2
           obtain ⟨W, rfl⟩ : ∃ z : World, z = W9 := ⟨_, rfl⟩
           refine ⟨_, rfl, hd, ?_⟩
           (try simp only [Act.put, zA, zB, zC, zD, zE, zF])
           refine zV 8 (.tuple #[.agg #[.int .i64 u2.cpu, .int .i64 u2.mem], .bool true]) rfl (by kernel_rfl) hd (fun _ _ _ h => h) (fun W' hS' => by go_simp) ?_
           refine zV 9 (.agg #[.int .i64 u2.cpu, .int .i64 u2.mem]) rfl (by kernel_rfl) hd (fun _ _ _ h => h) (fun W' hS' => by go_simp) ?_
           refine zV 10 (.bool true) rfl (by kernel_rfl) hd (fun _ _ _ h => h) (fun W' hS' => by go_simp) ?_
           (try simp only [Act.put, zA, zB, zC, zD, zE, zF])
           )
          rotate_left
          all_goals (
           refine zO 12 (by kernel_rfl) ?_
           refine Bi (p := Q) (cs := #[.int .i64 u2.cpu, .int .i64 u2.mem]) rfl (by rfl) rfl (by go_simp) (by go_simp) hC rfl STRes2 rfl rfl (fun w4 hE hx4 => ?_)
           have hd9 := hd.trans hx4 (fun q hq e => absurd (show q = Q from e) (by omega))
           refine ⟨hd9, ?_⟩
           (try simp only [Act.put, zA, zB, zC, zD, zE, zF])
           refine zV 13 (.bool true) rfl (by kernel_rfl) hd9 (fun _ _ _ h => h) (fun W' hS' => by go_simp) ?_
           refine wpAnyH_done (by kernel_rfl) ?_ _
           (try simp only [Act.put, zA, zB, zC, zD, zE, zF])
           go_wp2
           go_meet
           exact ⟨Q, rfl, rfl, hE, hd9⟩
           )
         case rest =>
          obtain ⟨Q, rfl, rfl, hE, hxc⟩ := hcut
          obtain ⟨wd, rfl⟩ : ∃ z : World, z = wc := ⟨_, rfl⟩
          have hUd := hUq.e0 hxc
          have hNd := (hNj.e0 hxq).e0 hxc
          have hjd := (hxj.trans hxq (fun _ _ e => e.elim)).trans hxc (fun _ _ e => e.elim)
          have hUN : Nb ≠ U := Blk.ne hNd hUd (by decide)
          clear m5 f7 f8
          go_wp2_with (first | go_skip | go_guarded | ((with_reducible refine isW ?_); refine Ah rfl 41 _ rfl STRes2 Q rfl #[.int .i64 u2.cpu, .int .i64 u2.mem] (show Blk _ _ 41 _ from hE) rfl ?_) | ((with_reducible refine isW ?_); refine Ae rfl 41 _ _ rfl STRes2 U rfl #[.int .i64 u2.cpu, .int .i64 u2.mem] rfl (show Blk _ _ 41 _ from hUd) rfl rfl rfl ?_; intro wz hUz hxz))
          go_roundw
          case rel => exact ⟨j + 1, u2, HTJ.out, by go_num, hNd.ext hxz (fun e => hUN e), hUz, HS, hjd.tr hxz⟩
          case measure => have := HTJ.out; simp [intOf]; omega
      have hnlj : ¬ ((j : Int) < s2.nA) := by omega
      have hfo := hfold.out
      rw [List.take_of_length_le (show s2.allocs.length ≤ j by have := hO5.al; omega), HRF.out] at hfo
      have hru : u = rr := (Option.some.inj hfo).symm
      subst hru
      have b1 : decide (n1 < u.cpu) = false := by have := HR1.out; simp; omega
      have b2 : decide (n2 < u.mem) = false := by have := HR2.out; simp; omega
      clear hfo hfold
      go_upto_region 19 with (first | go_skip | go_guarded)
      clear m5
      have cu0 : wr.cell? ⟨U, 0, none⟩ = some (.int .i64 u.cpu) := hUj.cell 0
      have cu1 : wr.cell? ⟨U, 1, none⟩ = some (.int .i64 u.mem) := hUj.cell 1
      have cn1 : wr.cell? ⟨Nb, 1, none⟩ = some (.int .i64 n1) := hNj.cell 1
      have cn2 : wr.cell? ⟨Nb, 2, none⟩ = some (.int .i64 n2) := hNj.cell 2
      go_wp2_with (first | go_skip | go_guarded)
      go_roundw
      case rel => exact ⟨k + 1, HTK.out, by go_num, hx5j⟩
      case measure => have := HTK.out; simp [intOf]; omega
    have hnl : ¬ ((k : Int) < s2.nN) := by omega
    go_wp2_with (first | go_skip | go_guarded)
    go_roundw
    case rel => exact ⟨t + 1, HT.out, by go_num, s2, hO5.Bu hx, HG2.out, hB5.e0 hx, hx5w.tr hx⟩
    case measure => have := HT.out; simp [intOf]; omega
  have hnl : ¬ ((t : Int) < ln) := by omega
  go_wp2_with (first | go_skip | go_guarded | (go_at_call 17; (with_reducible refine (MS _).mono ?_); rintro e w9 ⟨rfl, hx9⟩))
  go_ret
  exact ⟨rfl, hx.tr hx9⟩
end Go.Proofs.YtccekmeifanipaaGreat
