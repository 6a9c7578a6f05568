/- Parts of the proof: Slots11 -/
import Derived.Test.YtccekmeifanipaaGreatQ34
import Derived.Test.YtccekmeifanipaaGreatQ14
import Derived.Test.YtccekmeifanipaaGreatQ04
import Derived.Test.YtccekmeifanipaaGreatQ03
namespace Go.Proofs.YtccekmeifanipaaGreat
set_option linter.unusedVariables false
set_option linter.unusedSimpArgs false
set_option linter.unusedSectionVars false
open Go.RowKit
set_option maxRecDepth 20000 in
set_option maxHeartbeats 16000000 in
theorem NB (LA : Option Addr) (ln lc : Nat) (l : List Bh) (w : World) (hl : Sl w 27 LA ln (l.map Bh.cells)) (hr : ∀ c ∈ l, c.Read w) (hn : ln ≤ 1048576) :
  Calls Tryz.prog 4 #[.slice LA ln lc] w fun e w' => e = .returned (.bool true) ∧ Ext Nothing w w' := by
 go_enter Tryz.func4, Tryz.ntmps4
 have hln := Lib.hid hl.len
 go_upto_region 2 with (first | go_skip | go_guarded | (go_at_call 14; (with_reducible refine (QI w).mono ?_); rintro e w1 ⟨rfl, hx1⟩))
 have hxT : Ext Nothing w1 (w1.alloc (.cells #[.int .i64 0, .int .i64 1, .slice none 0 0, .slice none 0 0, .slice none 0 0, .slice none 0 0, .slice none 0 0, .slice none 0 0, .slice none 0 0] 30)) := Ext.Au
 have hT0 : Blk (w1.alloc (.cells #[.int .i64 0, .int .i64 1, .slice none 0 0, .slice none 0 0, .slice none 0 0, .slice none 0 0, .slice none 0 0, .slice none 0 0, .slice none 0 0] 30)) w1.heap.size 30 EQ.arr := Blk.new _ _ _
 have hzT : w.heap.size ≤ w1.heap.size := hx1.size
 have hx0 := hx1.tr hxT
 generalize hTT : w1.heap.size = T at hT0 hzT ⊢
 generalize (w1.alloc (.cells #[.int .i64 0, .int .i64 1, .slice none 0 0, .slice none 0 0, .slice none 0 0, .slice none 0 0, .slice none 0 0, .slice none 0 0, .slice none 0 0] 30)) = w2 at hT0 hx0 ⊢
 clear hxT hx1 hTT
 have hO0 : Aw w.heap.size w2 EQ := IB _ _
 go_wp2
 go_loopw [4] (fun ki wr => ∃ t : Nat, t ≤ ln ∧ ki = .int .i64 t ∧ ∃ sV : Aa, Aw w.heap.size wr sV ∧ Fsm.IM t sV.data ∧ Blk wr T 30 sV.arr ∧ Ext Nothing w wr) (fun ki _ => ln - (intOf ki).toNat)
 case atStart => exact ⟨0, Nat.zero_le _, rfl, EQ, hO0, Fsm.JB, hT0, hx0⟩
 case round =>
  obtain ⟨t, ht, rfl, sV, hO, hG, hT, hx⟩ := hrel
  clear hO0 hT0 hx0
  by_cases hlt : t < ln
  ·obtain ⟨hjn, b, off, hLe, hce⟩ := hl.get hx hlt
   have hrd := hr _ (List.getElem_mem hjn)
   generalize l[t] = c at hce hrd
   subst hLe
   have hk0 : (0 : Int) ≤ (t : Int) := by omega
   have hk1 : (t : Int) < ln := by omega
   have HW := Lib.hid (show wrap64 ((t : Int) + 1) = (t : Int) + 1 by unfold wrap64; omega)
   have HT := Lib.hid hlt
   have HG := Lib.hid hG
   have hbw : b < w.heap.size := by obtain ⟨q, hq⟩ := hl.blk (show 0 < ln by omega); exact hq
   have HCE := Lib.hid (show ∀ j u, c.arr.toList[j]? = some u → wr.cell? ⟨b, off + t * 27 + j, none⟩ = some u from hce)
   clear hce hG hlt
   go_upto_region 5 with (first | go_skip | go_guarded)
   have hd : Ext Nothing wr wr.drew := (Ext.refl _ _).drew
   refine zS (S := fun W' => Ext (fun q => q = T) wr W') (by kernel_rfl) ?_
   have hS := hd.any (S := fun q => q = T)
   generalize wr.drew = Wd at hd hS ⊢
   refine zV 1 (.int .i64 (t : Int)) rfl (by kernel_rfl) hS (fun _ _ _ h => h) (fun W' hS' => by go_simp) ?_
   refine zV 2 (.int .i64 (wrap64 ((t : Int) + 1))) rfl (by kernel_rfl) hS (fun _ _ _ h => h) (fun W' hS' => by go_simp; rw [IntKind.wrap_i64]; have := HT.out; unfold wrap64; omega) ?_
   refine zV 3 (.slice (some ⟨b, off, none⟩) ln lc) rfl (by kernel_rfl) hS (fun _ _ _ h => h) (fun W' hS' => by go_simp) ?_
   refine zV 4 (.int .i64 (t : Int)) rfl (by kernel_rfl) hS (fun _ _ _ h => h) (fun W' hS' => by go_simp) ?_
   refine zV 5 (.pointer (some ⟨b, off + t * 27, none⟩)) rfl (by kernel_rfl) hS (fun _ _ _ h => h) (fun W' hS' => by go_simp) ?_
   refine zV 6 (.agg c.arr) rfl (by kernel_rfl) hS (fun _ _ _ h => h) (fun W' hS' => by exact Af (sz := 27) (b := b) (off := off + t * 27) rfl J2 (by go_simp) (fun j u hu => hS'.cell (HCE.out j u hu) (fun e => absurd (show b = T from e) (by omega))) rfl) ?_
   refine zV 7 (.agg (c.ent (wrap64 ((t : Int) + 1)) 1)) rfl (by kernel_rfl) hS (fun _ _ _ h => h) (fun W' hS' => by go_simp) ?_
   (try simp only [Act.put, zA, zB, zC, zD, zE, zF])
   have hTq := hT.e0 hd
   have hOq := hO.Bu hd
   have hxq := hx.tr hd
   have hcq := hrd.Rk hxq
   refine zO 0 (by kernel_rfl) ?_
   refine wpOp_val (v := .agg sV.arr) (w' := Wd) rfl (by rfl) (by exact AB rfl Al (by go_simp) hTq rfl) ⟨hS, ?_⟩
   (try simp only [Act.put, zA, zB, zC, zD, zE, zF])
   refine zO 8 (by kernel_rfl) ?_
   refine Ak (f := 15) (args := #[.agg sV.arr, .agg (c.ent (wrap64 ((t : Int) + 1)) 1)]) rfl (by rfl) (by go_simp) ((FO (base := w.heap.size) (t := t) (w := Wd) (s := sV) (c := c) (ix := (wrap64 ((t : Int) + 1))) 1 hOq HG.out.g hcq hrd.op (by have := HT.out; omega) (by have := HT.out; rw [HW.out]; omega) (by rw [HW.out]; omega)).mono ?_)
   rintro e w2 ⟨s2, r2, rv2, rfl, hO2, hF2, hres2, hx2⟩
   have hT2 := hTq.e0 hx2
   have hS2 := hS.trans hx2 (fun _ _ e => e.elim)
   have HG2 := Lib.hid (show Fsm.IM (t + 1) s2.data by have h9 := Fsm.IG HG.out (by have := HT.out; omega) hrd.Lj; rw [← HW.out, hF2] at h9; exact h9)
   have HF2 := Lib.hid hF2
   clear hF2
   refine ⟨_, rfl, hS2, ?_⟩
   (try simp only [Act.put, zA, zB, zC, zD, zE, zF])
   refine zO 9 (by kernel_rfl) ?_
   refine wpOp_val (v := .tuple #[.agg s2.arr, .agg #[.int .i64 r2.code, .int .i64 r2.value, rv2]]) (w' := w2) rfl (by rfl) (by go_simp) ⟨hS2, ?_⟩
   (try simp only [Act.put, zA, zB, zC, zD, zE, zF])
   refine zV 10 (.agg s2.arr) rfl (by kernel_rfl) hS2 (fun _ _ _ h => h) (fun W' hS' => by go_simp) ?_
   refine zV 11 (.agg #[.int .i64 r2.code, .int .i64 r2.value, rv2]) rfl (by kernel_rfl) hS2 (fun _ _ _ h => h) (fun W' hS' => by go_simp) ?_
   (try simp only [Act.put, zA, zB, zC, zD, zE, zF])
   refine zO 12 (by kernel_rfl) ?_
   refine Bi (p := T) (cs := s2.arr) rfl (by rfl) rfl (by go_simp) (by go_simp) hT2 rfl Al rfl rfl (fun w5 hB5 hx5 => ?_)
   have hS5 := hS2.trans hx5 (fun q hq e => e)
   refine ⟨hS5, wpAnyH_done (by kernel_rfl) ?_ _⟩
   (try simp only [Act.put, zA, zB, zC, zD, zE, zF])
   have hO5 := (hO2.base hxq.size).keep hx5 (Apart.one hT2 (by decide))
   have hx5w : Ext Nothing w w5 := hx.trans hS5 (fun b hb e => absurd (show b = T from e) (by omega))
   clear hd hS hS2 hS5 hTq hOq hxq hcq hT2 hx2 hO2 hx5 hres2 hT hO hx
   obtain ⟨ql1, ql2, ql3, ql4, ql5, ql6, ql7⟩ := Gz HG2.out.g (show t + 1 ≤ 1048576 by have := HT.out; omega)
   have hnJ : s2.nJ ≤ 1048576 := by have := hO5.jl; have := HT.out; omega
   have hnS : s2.nS ≤ 1048576 := by have := hO5.tl; have := HT.out; omega
   have hnN : s2.nN ≤ 1048576 := by have := hO5.nl; have := HT.out; omega
   have hnA : s2.nA ≤ 64 := by have := hO5.al; omega
   have hnE : s2.nE ≤ 1048576 := by have := hO5.el; have := HT.out; omega
   have hnD : s2.nD ≤ 1048576 := by have := hO5.dl; have := HT.out; omega
   clear ql1 ql2 ql3 ql4 ql5 ql6 ql7
   have h64 : ¬ ((64 : Int) < s2.nA) := by omega
   have m5 : w5.cell? ⟨T, 5, none⟩ = some (.slice s2.AA s2.nA s2.cA) := hB5.cell 5
   go_wp2
   clear m5 h64
   go_loopw [5] (fun ki wr => ∃ k : Nat, k ≤ s2.nA ∧ ki = .int .i64 k ∧ Ext Nothing w5 wr) (fun ki _ => s2.nA - (intOf ki).toNat)
   case atStart => exact ⟨0, Nat.zero_le _, rfl, Ext.refl _ _⟩
   case round =>
    obtain ⟨k, hk, rfl, hx⟩ := hrel
    have m5 : wr.cell? ⟨T, 5, none⟩ = some (.slice s2.AA s2.nA s2.cA) := (hB5.e0 hx).cell 5
    by_cases hlt : k < s2.nA
    ·obtain ⟨hjn, g, offa, hAe, hace⟩ := hO5.slA.get hx hlt
     have hyk : s2.allocs[k]? = some s2.allocs[k] := List.getElem?_eq_getElem hjn
     generalize s2.allocs[k] = y at hace hyk
     obtain ⟨y0, y1, y2, y3, y4, y5, y6, ⟨y7, y8⟩, y9, y10⟩ := y
     rw [hAe] at m5
     have HAE := Lib.hid hAe
     have hce : ∀ j u, (#[.int .i64 y0, .int .i64 y1, .int .i64 y2, .int .i64 y3, .int .i64 y4, .int .i64 y5, .int .i64 y6, .int .i64 y7, .int .i64 y8, .bool y9, .int .i64 y10] : Array Value).toList[j]? = some u → wr.cell? ⟨g, offa + k * 11 + j, none⟩ = some u := hace
     have HYK := Lib.hid hyk
     have HTK := Lib.hid hlt
     have hk0 : (0 : Int) ≤ (k : Int) := by omega
     have hk1 : (k : Int) < s2.nA := by omega
     clear hAe hace hyk hlt
     have hxA : Ext Nothing wr (wr.alloc (.cells #[.int .i64 y0, .int .i64 y1, .int .i64 y2, .int .i64 y3, .int .i64 y4, .int .i64 y5, .int .i64 y6, .int .i64 y7, .int .i64 y8, .bool y9, .int .i64 y10] 55)) := Ext.Au
     have hY : Blk (wr.alloc (.cells #[.int .i64 y0, .int .i64 y1, .int .i64 y2, .int .i64 y3, .int .i64 y4, .int .i64 y5, .int .i64 y6, .int .i64 y7, .int .i64 y8, .bool y9, .int .i64 y10] 55)) wr.heap.size 55 #[.int .i64 y0, .int .i64 y1, .int .i64 y2, .int .i64 y3, .int .i64 y4, .int .i64 y5, .int .i64 y6, .int .i64 y7, .int .i64 y8, .bool y9, .int .i64 y10] := Blk.new _ _ _
     go_upto_region 12 with (first | go_skip | go_guarded | ((with_reducible refine isW ?_); refine Ad rfl 55 _ rfl AY g (offa + k * 11) rfl #[.int .i64 y0, .int .i64 y1, .int .i64 y2, .int .i64 y3, .int .i64 y4, .int .i64 y5, .int .i64 y6, .int .i64 y7, .int .i64 y8, .bool y9, .int .i64 y10] hce rfl ?_))
     have m5 := hxA.c0 m5
     have hx5A := hx.tr hxA
     clear hce hxA
     generalize wr.heap.size = Y at hY ⊢
     generalize (wr.alloc (.cells #[.int .i64 y0, .int .i64 y1, .int .i64 y2, .int .i64 y3, .int .i64 y4, .int .i64 y5, .int .i64 y6, .int .i64 y7, .int .i64 y8, .bool y9, .int .i64 y10] 55)) = wa at hY m5 hx5A ⊢
     have p0 : wa.cell? ⟨Y, 0, none⟩ = some (.int .i64 y0) := hY.cell 0
     (try simp only [Act.put, zA, zB, zC, zD, zE, zF])
     go_upto_region 12 with fail
     go_cut [58] from 45 to 57 (fun e wx => e = .bool false ∧ Ext Nothing wa wx)
     case first =>
      by_cases hkz : k = 0
      ·have hkb : decide ((0 : Int) < (k : Int)) = false := by simp; omega
       have hkb2 : decide (0 < k) = false := by simp; omega
       refine AC (by kernel_rfl) (by kernel_rfl) ?_
       repeat (first | go_big_quiet_skip | (go_big_quiet_want; (first | go_big_quiet_op); go_big_quiet_on))
       refine wpQuiet_nil ?_
       intro wb hxb
       clear p0 m5 hkb
       go_wp2
       go_meet
       exact ⟨rfl, hxb⟩
      have hwk : wrap64 ((k : Int) - 1) = ((k - 1 : Nat) : Int) := by unfold wrap64; omega
      have hkb : decide ((0 : Int) < (k : Int)) = true := by simp; omega
      have hkb2 : decide (0 < k) = true := by simp; omega
      obtain ⟨hjp, gp, offp, hAp, hpce⟩ := hO5.slA.get hx5A (show k - 1 < s2.nA by omega)
      have hyp : s2.allocs[k - 1]? = some s2.allocs[k - 1] := List.getElem?_eq_getElem hjp
      generalize s2.allocs[k - 1] = z at hpce hyp
      have hlt2 := Fsm.QB HG2.out.g.num (show s2.data.allocs[k - 1]? = some z from hyp) (show s2.data.allocs[k]? = some _ from HYK.out) (by omega)
      have hidb : decide (y0 ≤ z.id) = false := by have h9 : z.id < y0 := hlt2; simp; omega
      have hgp : gp = g ∧ offp = offa := by rw [HAE.out] at hAp; injection hAp with hAp; injection hAp with h1 h2; exact ⟨h1.symm, h2.symm⟩
      obtain ⟨rfl, rfl⟩ := hgp
      have z0 : wa.cell? ⟨gp, offp + (k - 1) * 11, none⟩ = some (.int .i64 z.id) := hpce 0 _ rfl
      have hk10 : (0 : Int) ≤ ((k - 1 : Nat) : Int) := by omega
      have hk11 : ((k - 1 : Nat) : Int) < s2.nA := by omega
      clear hAp hpce hyp hlt2
      refine AC (by kernel_rfl) (by kernel_rfl) ?_
      repeat (first | go_big_quiet_skip | (go_big_quiet_want; (first | ((refine Bn rfl ?_); (first | (refine Ag (p := ⟨T, 5, none⟩) (v := .slice (some ⟨gp, offp, none⟩) s2.nA s2.cA) ?_ ?_ ?_; (focus rfl); (focus (intro W' hW; have q := hW.c0 m5; go_simp; done))) | (refine Ag (p := ⟨gp, offp + (k - 1) * 11, none⟩) (v := .int .i64 z.id) ?_ ?_ ?_; (focus rfl); (focus (intro W' hW; have q := hW.c0 z0; go_simp; done))) | (refine Ag (p := ⟨Y, 0, none⟩) (v := .int .i64 y0) ?_ ?_ ?_; (focus rfl); (focus (intro W' hW; have q := hW.c0 p0; go_simp; done)))); (try simp only [Act.put, zA, zB, zC, zD, zE, zF]); (try simp only [hkb]); (try simp only [hkb2]); (try simp only [hwk]); (try simp only [hidb])) | go_big_quiet_op); go_big_quiet_on))
      refine wpQuiet_nil ?_
      intro wb hxb
      clear p0 m5 hkb z0 hk10 hk11 hwk hidb
      go_wp2
      go_meet
      exact ⟨rfl, hxb⟩
     case rest =>
      obtain ⟨rfl, hxb⟩ := hcut
      obtain ⟨wb, rfl⟩ : ∃ z : World, z = wc := ⟨_, rfl⟩
      have hYb := hY.e0 hxb
      have hx5b := hx5A.tr hxb
      clear hY hx5A hxb p0 m5
      have hB9 := hB5.e0 hx5b
      have hO9 := hO5.Bu hx5b
      have p10 : wb.cell? ⟨Y, 10, none⟩ = some (.int .i64 y10) := hYb.cell 10
      by_cases ho : 3 ≤ y10
      ·go_wp2_with (first | go_skip | go_guarded)
       go_roundw
       case rel => exact ⟨k + 1, HTK.out, by go_num, hx5b⟩
       case measure => have := HTK.out; simp [intOf]; omega
      have hov : Bc (⟨y0, y1, y2, y3, y4, y5, y6, ⟨y7, y8⟩, y9, y10⟩ : Ac) = false := by simp [Bc]; omega
      obtain ⟨n, hna, hnu, hne⟩ := Fsm.O8 HG2.out.i (show (⟨y0, y1, y2, y3, y4, y5, y6, ⟨y7, y8⟩, y9, y10⟩ : Ac) ∈ s2.data.allocs from List.mem_of_getElem? HYK.out) hov
      have hnx : y0 < s2.next := HG2.out.g.num.lt (⟨y0, y1, y2, y3, y4, y5, y6, ⟨y7, y8⟩, y9, y10⟩ : Ac) (List.mem_of_getElem? HYK.out)
      rcases AQ (fun x : NodD => x.id == y5) s2.nodes with ⟨hi, hf, _⟩ | ⟨i, x, hi, hxi, hp, hf, _⟩
      ·exact absurd (show Fsm.nodeAt s2.data y5 = none from hf) (by rw [show Fsm.nodeAt s2.data y5 = some n from hna]; simp)
      have hxn : x = n := by have h9 : Fsm.nodeAt s2.data y5 = some x := hf; rw [show Fsm.nodeAt s2.data y5 = some n from hna] at h9; exact (Option.some.inj h9).symm
      subst hxn
      obtain ⟨x0, ⟨x1, x2⟩, x3, x4, x5, x6, x7⟩ := x
      have hx3 : x3 = true := hnu
      have hx6 : x6 = y6 := hne
      subst hx3
      subst hx6
      have HI := Lib.hid hi
      have hOV := Lib.hid hov
      have hi0 : (0 : Int) ≤ (i : Int) := by omega
      have hi1 : (i : Int) < s2.nN := by have := hO5.nl; have := (List.getElem?_eq_some_iff.1 hxi).1; omega
      have hid : decide ((i : Int) < 0) = false := by simp
      have hnxb : decide (s2.next ≤ y0) = false := by simp; omega
      have hself : (x6 != x6) = false := by simp
      obtain ⟨gn, _, hAn, _, _, _, hnce, _⟩ := hO9.Hf hxi
      have hslN := hO9.slN
      have hnN9 : s2.nN ≤ 67108864 := by omega
      have p5 : wb.cell? ⟨Y, 5, none⟩ = some (.int .i64 y5) := hYb.cell 5
      clear hi hf hxi hp hna hnu hne hov hnx
      go_upto_region 16 with (first | go_skip | go_guarded | ((with_reducible refine isW ?_); refine Ah rfl 30 _ rfl Al T rfl s2.arr (show Blk _ _ 30 _ from hB9) rfl ?_) | (go_at_call 18; (with_reducible refine (Nl s2.AN s2.nN s2.cN s2.nodes y5 wb hslN hnN9 _ _ _ _ _ _ _ _).mono ?_); rintro e w6 ⟨rfl, hx6⟩; (rw [HI.out])))
      have n4 : w6.cell? ⟨T, 4, none⟩ = some (.slice (some ⟨gn, 0, none⟩) s2.nN s2.cN) := by rw [← hAn]; exact (hB9.e0 hx6).cell 4
      have n1 : w6.cell? ⟨T, 1, none⟩ = some (.int .i64 s2.next) := (hB9.e0 hx6).cell 1
      have k3 : w6.cell? ⟨gn, i * 8 + 3, none⟩ = some (.bool true) := hx6.c0 (hnce 3 _ rfl)
      have k6 : w6.cell? ⟨gn, i * 8 + 6, none⟩ = some (.int .i64 x6) := hx6.c0 (hnce 6 _ rfl)
      have q0 : w6.cell? ⟨Y, 0, none⟩ = some (.int .i64 y0) := (hYb.e0 hx6).cell 0
      have q6 : w6.cell? ⟨Y, 6, none⟩ = some (.int .i64 x6) := (hYb.e0 hx6).cell 6
      clear hAn hnce
      refine AC (by kernel_rfl) (by kernel_rfl) ?_
      repeat (first | go_big_quiet_skip | (go_big_quiet_want; (first | ((refine Bn rfl ?_); (first | (refine Ag (p := ⟨T, 4, none⟩) (v := .slice (some ⟨gn, 0, none⟩) s2.nN s2.cN) ?_ ?_ ?_; (focus rfl); (focus (intro W' hW; have q := hW.c0 n4; go_simp; done))) | (refine Ag (p := ⟨gn, i * 8 + 3, none⟩) (v := .bool true) ?_ ?_ ?_; (focus rfl); (focus (intro W' hW; have q := hW.c0 k3; go_simp; done))) | (refine Ag (p := ⟨gn, i * 8 + 6, none⟩) (v := .int .i64 x6) ?_ ?_ ?_; (focus rfl); (focus (intro W' hW; have q := hW.c0 k6; go_simp; done))) | (refine Ag (p := ⟨Y, 6, none⟩) (v := .int .i64 x6) ?_ ?_ ?_; (focus rfl); (focus (intro W' hW; have q := hW.c0 q6; go_simp; done))) | (refine Ag (p := ⟨Y, 0, none⟩) (v := .int .i64 y0) ?_ ?_ ?_; (focus rfl); (focus (intro W' hW; have q := hW.c0 q0; go_simp; done))) | (refine Ag (p := ⟨T, 1, none⟩) (v := .int .i64 s2.next) ?_ ?_ ?_; (focus rfl); (focus (intro W' hW; have q := hW.c0 n1; go_simp; done)))); (try simp only [Act.put, zA, zB, zC, zD, zE, zF]); (try simp only [hid]); (try simp only [hself]); (try simp only [hnxb])) | go_big_quiet_op); go_big_quiet_on))
      refine wpQuiet_nil ?_
      intro w7 hx7
      have hY7 := (hYb.e0 hx6).e0 hx7
      have hx57 := (hx5b.tr hx6).tr hx7
      clear hB9 hO9 hYb hx5b hx6 hx7 n4 n1 k3 k6 q0 q6 p5 p10 hid hself hnxb hi0 hi1 hslN
      go_wp2
      go_loopw [8] (fun ji wr => ∃ j : Nat, j ≤ k ∧ ji = .int .i64 j ∧ Ext Nothing w7 wr) (fun ji _ => k - (intOf ji).toNat)
      case atStart => exact ⟨0, Nat.zero_le _, rfl, Ext.refl _ _⟩
      case round =>
       obtain ⟨j, hj, rfl, hxj⟩ := hrel
       have hx5j := hx57.tr hxj
       have m5 : wr.cell? ⟨T, 5, none⟩ = some (.slice s2.AA s2.nA s2.cA) := (hB5.e0 hx5j).cell 5
       by_cases hltj : j < k
       ·have hjA : j < s2.nA := by have := HTK.out; omega
        obtain ⟨hjz, gz, offz, hAz, hzce⟩ := hO5.slA.get hx5j hjA
        have hzk : s2.allocs[j]? = some s2.allocs[j] := List.getElem?_eq_getElem hjz
        generalize s2.allocs[j] = z at hzce hzk
        have hpair := Fsm.O9 HG2.out.i (show s2.data.allocs[j]? = some z from hzk) (show s2.data.allocs[k]? = some _ from HYK.out) hltj
        obtain ⟨z0, z1, z2, z3, z4, z5, z6, ⟨z7, z8⟩, z9, z10⟩ := z
        rw [hAz] at m5
        have hcz : ∀ j9 u, (#[.int .i64 z0, .int .i64 z1, .int .i64 z2, .int .i64 z3, .int .i64 z4, .int .i64 z5, .int .i64 z6, .int .i64 z7, .int .i64 z8, .bool z9, .int .i64 z10] : Array Value).toList[j9]? = some u → wr.cell? ⟨gz, offz + j * 11 + j9, none⟩ = some u := hzce
        have HTJ := Lib.hid hltj
        have HPR := Lib.hid hpair
        have hj0 : (0 : Int) ≤ (j : Int) := by omega
        have hj1 : (j : Int) < s2.nA := by omega
        have hj2 : (j : Int) < (k : Int) := by omega
        clear hAz hzce hzk hpair hltj
        have hxB : Ext Nothing wr (wr.alloc (.cells #[.int .i64 z0, .int .i64 z1, .int .i64 z2, .int .i64 z3, .int .i64 z4, .int .i64 z5, .int .i64 z6, .int .i64 z7, .int .i64 z8, .bool z9, .int .i64 z10] 55)) := Ext.Au
        have hZ : Blk (wr.alloc (.cells #[.int .i64 z0, .int .i64 z1, .int .i64 z2, .int .i64 z3, .int .i64 z4, .int .i64 z5, .int .i64 z6, .int .i64 z7, .int .i64 z8, .bool z9, .int .i64 z10] 55)) wr.heap.size 55 #[.int .i64 z0, .int .i64 z1, .int .i64 z2, .int .i64 z3, .int .i64 z4, .int .i64 z5, .int .i64 z6, .int .i64 z7, .int .i64 z8, .bool z9, .int .i64 z10] := Blk.new _ _ _
        go_upto_region 22 with (first | go_skip | go_guarded | ((with_reducible refine isW ?_); refine Ad rfl 55 _ rfl AY gz (offz + j * 11) rfl #[.int .i64 z0, .int .i64 z1, .int .i64 z2, .int .i64 z3, .int .i64 z4, .int .i64 z5, .int .i64 z6, .int .i64 z7, .int .i64 z8, .bool z9, .int .i64 z10] hcz rfl ?_))
        have hxjB := hxj.tr hxB
        have hYj := (hY7.e0 hxj).e0 hxB
        clear hcz hxB m5
        generalize wr.heap.size = Z at hZ ⊢
        generalize (wr.alloc (.cells #[.int .i64 z0, .int .i64 z1, .int .i64 z2, .int .i64 z3, .int .i64 z4, .int .i64 z5, .int .i64 z6, .int .i64 z7, .int .i64 z8, .bool z9, .int .i64 z10] 55)) = wz at hZ hYj hxjB ⊢
        have rz10 : wz.cell? ⟨Z, 10, none⟩ = some (.int .i64 z10) := hZ.cell 10
        have rz1 : wz.cell? ⟨Z, 1, none⟩ = some (.int .i64 z1) := hZ.cell 1
        have ry1 : wz.cell? ⟨Y, 1, none⟩ = some (.int .i64 y1) := hYj.cell 1
        have rz3 : wz.cell? ⟨Z, 3, none⟩ = some (.int .i64 z3) := hZ.cell 3
        have ry3 : wz.cell? ⟨Y, 3, none⟩ = some (.int .i64 y3) := hYj.cell 3
        have rz4 : wz.cell? ⟨Z, 4, none⟩ = some (.int .i64 z4) := hZ.cell 4
        have ry4 : wz.cell? ⟨Y, 4, none⟩ = some (.int .i64 y4) := hYj.cell 4
        cases c1 : (decide (z10 < 3)) with
        | false =>
         go_wp2_with (first | go_skip | go_guarded)
         go_roundw
         case rel => exact ⟨j + 1, HTJ.out, by go_num, hxjB⟩
         case measure => have := HTJ.out; simp [intOf]; omega
        | true =>
         cases c2 : (z1 == y1) with
         | false =>
          go_wp2_with (first | go_skip | go_guarded)
          go_roundw
          case rel => exact ⟨j + 1, HTJ.out, by go_num, hxjB⟩
          case measure => have := HTJ.out; simp [intOf]; omega
         | true =>
          cases c3 : (z3 == y3) with
          | false =>
           go_wp2_with (first | go_skip | go_guarded)
           go_roundw
           case rel => exact ⟨j + 1, HTJ.out, by go_num, hxjB⟩
           case measure => have := HTJ.out; simp [intOf]; omega
          | true =>
           cases c4 : (z4 == y4) with
           | false =>
            go_wp2_with (first | go_skip | go_guarded)
            go_roundw
            case rel => exact ⟨j + 1, HTJ.out, by go_num, hxjB⟩
            case measure => have := HTJ.out; simp [intOf]; omega
           | true =>
            exact absurd ⟨by simpa using c2, by simpa using c3, by simpa using c4⟩ (HPR.out (by simp [Bc]; simpa using c1) hOV.out)
       have hnlj : ¬ ((j : Int) < (k : Int)) := by omega
       go_wp2_with (first | go_skip | go_guarded)
       go_roundw
       case rel => exact ⟨k + 1, HTK.out, by go_num, hx5j⟩
       case measure => have := HTK.out; simp [intOf]; omega
    have hnl : ¬ ((k : Int) < s2.nA) := by omega
    go_wp2_with (first | go_skip | go_guarded)
    go_roundw
    case rel => exact ⟨t + 1, HT.out, by go_num, s2, hO5.Bu hx, HG2.out, hB5.e0 hx, hx5w.tr hx⟩
    case measure => have := HT.out; simp [intOf]; omega
  have hnl : ¬ ((t : Int) < ln) := by omega
  go_wp2_with (first | go_skip | go_guarded | (go_at_call 17; (with_reducible refine (MS _).mono ?_); rintro e w9 ⟨rfl, hx9⟩))
  go_ret
  exact ⟨rfl, hx.tr hx9⟩
end Go.Proofs.YtccekmeifanipaaGreat
