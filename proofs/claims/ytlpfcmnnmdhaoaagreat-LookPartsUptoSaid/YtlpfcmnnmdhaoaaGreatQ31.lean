/- Parts of the proof: Parts -/
import Derived.Test.YtlpfcmnnmdhaoaaGreatQ29
import Derived.Test.YtlpfcmnnmdhaoaaGreatQ12
import Derived.Test.YtlpfcmnnmdhaoaaGreatQ05
import Derived.Test.YtlpfcmnnmdhaoaaGreatQ20
namespace Go.Proofs.YtlpfcmnnmdhaoaaGreat
set_option linter.unusedVariables false
set_option linter.unusedSimpArgs false
set_option linter.unusedSectionVars false
open Go.RowKit
theorem parts_ok {base t : Nat} {W : World} {s : StoreV} {A : Option Addr} {c : Nat} {a : AllocD} (h : OwnS base W (s.setA A c (s.allocs ++ [a]))) (hg : Fsm.Good t s.data) (ht : t ≤ 1048576) (ha : a.ok) : (s.setA A c (s.allocs ++ [a])).Ok W := by
 obtain ⟨h1, h2, h3, h4, h5, h6, h7⟩ := good_lens hg ht
 have h64 : Fsm.Ok64 (s.setA A c (s.allocs ++ [a])).data := hg.o64.wA (fun x hx => by
  rcases List.mem_append.1 hx with hx | hx
  ·exact hg.o64.a x hx
  ·rw [List.mem_singleton.1 hx]; exact ha)
 exact h.ok h64 (Nat.le_trans h1 ht) (Nat.le_trans h2 ht) (Nat.le_trans h3 ht) (by show (s.allocs ++ [a]).length ≤ _; rw [List.length_append]; simp; omega) (Nat.le_trans h5 ht) (Nat.le_trans h6 ht) (Nat.le_trans h7 ht)
set_option maxRecDepth 20000 in
set_option maxHeartbeats 16000000 in
theorem parts_any (LA : Option Addr) (ln lc : Nat) (l : List CmdV) (a0 a1 a2 a3 a4 a5 a6 a7 a8 : Int) (a9 : Bool) (a10 : Int) (w : World) (hl : Sl w 27 LA ln (l.map CmdV.cells)) (hr : ∀ c ∈ l, c.Read w) (hn : ln ≤ 1048576) (ha : (⟨a0, a1, a2, a3, a4, a5, a6, ⟨a7, a8⟩, a9, a10⟩ : AllocD).ok) :
  Calls Tryz.prog 4 #[.slice LA ln lc, .agg #[.int .i64 a0, .int .i64 a1, .int .i64 a2, .int .i64 a3, .int .i64 a4, .int .i64 a5, .int .i64 a6, .int .i64 a7, .int .i64 a8, .bool a9, .int .i64 a10]] w fun e w' => e = .returned (.bool true) ∧ Ext Nothing w w' := by
 go_enter Tryz.func4, Tryz.ntmps4
 have hln := Lib.hid hl.len
 have hxA : Ext Nothing w (w.alloc (.cells #[.int .i64 a0, .int .i64 a1, .int .i64 a2, .int .i64 a3, .int .i64 a4, .int .i64 a5, .int .i64 a6, .int .i64 a7, .int .i64 a8, .bool a9, .int .i64 a10] 58)) := Ext.auto
 have hA0 : Blk (w.alloc (.cells #[.int .i64 a0, .int .i64 a1, .int .i64 a2, .int .i64 a3, .int .i64 a4, .int .i64 a5, .int .i64 a6, .int .i64 a7, .int .i64 a8, .bool a9, .int .i64 a10] 58)) w.heap.size 58 #[.int .i64 a0, .int .i64 a1, .int .i64 a2, .int .i64 a3, .int .i64 a4, .int .i64 a5, .int .i64 a6, .int .i64 a7, .int .i64 a8, .bool a9, .int .i64 a10] := Blk.new _ _ _
 have hzA : (w.alloc (.cells #[.int .i64 a0, .int .i64 a1, .int .i64 a2, .int .i64 a3, .int .i64 a4, .int .i64 a5, .int .i64 a6, .int .i64 a7, .int .i64 a8, .bool a9, .int .i64 a10] 58)).heap.size = w.heap.size + 1 := by simp
 have hzA2 := Lib.hid hzA
 clear hzA
 go_upto_region 1 with (first | go_skip | go_guarded)
 generalize (w.alloc (.cells #[.int .i64 a0, .int .i64 a1, .int .i64 a2, .int .i64 a3, .int .i64 a4, .int .i64 a5, .int .i64 a6, .int .i64 a7, .int .i64 a8, .bool a9, .int .i64 a10] 58)) = w0 at hxA hA0 hzA2 ⊢
 go_upto_region 2 with (first | go_skip | go_guarded | (go_at_call 5; (with_reducible refine (refNew w0).mono ?_); rintro e w1 ⟨rfl, hx1⟩))
 have hxT : Ext Nothing w1 (w1.alloc (.cells #[.int .i64 0, .int .i64 1, .slice none 0 0, .slice none 0 0, .slice none 0 0, .slice none 0 0, .slice none 0 0, .slice none 0 0, .slice none 0 0] 30)) := Ext.auto
 have hT0 : Blk (w1.alloc (.cells #[.int .i64 0, .int .i64 1, .slice none 0 0, .slice none 0 0, .slice none 0 0, .slice none 0 0, .slice none 0 0, .slice none 0 0, .slice none 0 0] 30)) w1.heap.size 30 newV.arr := Blk.new _ _ _
 have hzT : w.heap.size + 1 ≤ w1.heap.size := by have := hx1.size; have := hzA2.out; omega
 have hA1 := (hA0.e0 hx1).e0 hxT
 have hx0 := (hxA.tr hx1).tr hxT
 generalize hTT : w1.heap.size = T at hT0 hzT ⊢
 generalize (w1.alloc (.cells #[.int .i64 0, .int .i64 1, .slice none 0 0, .slice none 0 0, .slice none 0 0, .slice none 0 0, .slice none 0 0, .slice none 0 0, .slice none 0 0] 30)) = w2 at hT0 hx0 hA1 ⊢
 clear hxT hx1 hTT hA0 hxA hzA2
 have hO0 : OwnS w.heap.size w2 newV := newV_own _ _
 go_wp2
 go_loopw [6] (fun ki wr => ∃ t : Nat, t ≤ ln ∧ ki = .int .i64 t ∧ ∃ sV : StoreV, OwnS w.heap.size wr sV ∧ Fsm.Good t sV.data ∧ Blk wr T 30 sV.arr ∧ Blk wr w.heap.size 58 #[.int .i64 a0, .int .i64 a1, .int .i64 a2, .int .i64 a3, .int .i64 a4, .int .i64 a5, .int .i64 a6, .int .i64 a7, .int .i64 a8, .bool a9, .int .i64 a10] ∧ Ext Nothing w wr) (fun ki _ => ln - (intOf ki).toNat)
 case atStart => exact ⟨0, Nat.zero_le _, rfl, newV, hO0, Fsm.good_new, hT0, hA1, hx0⟩
 case round =>
  obtain ⟨t, ht, rfl, sV, hO, hG, hT, hA, hx⟩ := hrel
  clear hO0 hT0 hx0 hA1
  by_cases hlt : t < ln
  ·obtain ⟨hjn, b, off, hLe, hce⟩ := hl.get hx hlt
   have hrd := hr _ (List.getElem_mem hjn)
   generalize l[t] = c at hce hrd
   subst hLe
   have hk0 : (0 : Int) ≤ (t : Int) := by omega
   have hk1 : (t : Int) < ln := by omega
   have HW := Lib.hid (show wrap64 ((t : Int) + 1) = (t : Int) + 1 by unfold wrap64; omega)
   have HT := Lib.hid hlt
   have HG := Lib.hid hG
   have hok := own_good hO hG (by omega)
   have hbw : b < w.heap.size := by obtain ⟨q, hq⟩ := hl.blk (show 0 < ln by omega); exact hq
   have HCE := Lib.hid (show ∀ j u, c.arr.toList[j]? = some u → wr.cell? ⟨b, off + t * 27 + j, none⟩ = some u from hce)
   clear hce
   go_upto_region 5 with (first | go_skip | go_guarded)
   refine zH (S := fun q => q = T) (by kernel_rfl) (fun Wd hd hd0 => ?_)
   refine zT 1 (.int .i64 (t : Int)) rfl (by kernel_rfl) (by rfl) hd (fun _ _ _ h => h) ?_ ?_
   ·intro W' hS'
    go_simp
   refine zT 2 (.int .i64 (wrap64 ((t : Int) + 1))) rfl (by kernel_rfl) (by rfl) hd (fun _ _ _ h => h) ?_ ?_
   ·intro W' hS'
    go_simp
    rw [IntKind.wrap_i64]
    have := HT.out
    unfold wrap64
    omega
   refine zT 3 (.slice (some ⟨b, off, none⟩) ln lc) rfl (by kernel_rfl) (by rfl) hd (fun _ _ _ h => h) ?_ ?_
   ·intro W' hS'
    go_simp
   refine zT 4 (.int .i64 (t : Int)) rfl (by kernel_rfl) (by rfl) hd (fun _ _ _ h => h) ?_ ?_
   ·intro W' hS'
    go_simp
   refine zT 5 (.pointer (some ⟨b, off + t * 27, none⟩)) rfl (by kernel_rfl) (by rfl) hd (fun _ _ _ h => h) ?_ ?_
   ·intro W' hS'
    go_simp
   refine zT 6 (.agg c.arr) rfl (by kernel_rfl) (by rfl) hd (fun _ _ _ h => h) ?_ ?_
   ·intro W' hS'
    exact run_load_struct (sz := 27) (b := b) (off := off + t * 27) rfl STCmd (by go_simp) (fun j u hu => hS'.cell (HCE.out j u hu) (fun e => absurd (show b = T from e) (by omega))) rfl
   refine zT 7 (.agg (c.ent (wrap64 ((t : Int) + 1)) 1)) rfl (by kernel_rfl) (by rfl) hd (fun _ _ _ h => h) ?_ ?_
   ·intro W' hS'
    go_simp
   (try simp only [Act.put, zA, zB, zC, zD, zE, zF])
   have hOk := hok.ext0 hd0
   have hTq := hT.e0 hd0
   have hxq := hx.tr hd0
   have hcq := hrd.cmdI hxq
   refine zO 0 (by kernel_rfl) ?_
   refine wpOp_val (v := .agg sV.arr) (w' := Wd) rfl (by rfl) (by exact run_load_blk rfl STStore (by go_simp) hTq rfl) ⟨hd, ?_⟩
   (try simp only [Act.put, zA, zB, zC, zD, zE, zF])
   refine zO 8 (by kernel_rfl) ?_
   refine wpOp_call (f := 6) (args := #[.agg sV.arr, .agg (c.ent (wrap64 ((t : Int) + 1)) 1)]) rfl (by rfl) (by go_simp) ((apply_good hOk HG.out hcq (show t ≤ 1048575 by have := HT.out; omega) (ix := wrap64 ((t : Int) + 1)) (term := 1)).mono ?_)
   rintro e w2 ⟨s2, r2, rv, rfl, hO2, hF2, _, hx2⟩
   have hT2 := hTq.e0 hx2
   have hd2 := hd.trans hx2 (fun _ _ e => e.elim)
   have HG2 := Lib.hid (show Fsm.Good (t + 1) s2.data by have h9 := Fsm.good_step HG.out (by have := HT.out; omega) hrd.ok hrd.placesLe; rw [← HW.out, hF2] at h9; exact h9)
   clear hF2
   refine ⟨_, rfl, hd2, ?_⟩
   (try simp only [Act.put, zA, zB, zC, zD, zE, zF])
   refine zO 9 (by kernel_rfl) ?_
   refine wpOp_val (v := .tuple #[.agg s2.arr, .agg #[.int .i64 r2.code, .int .i64 r2.value, rv]]) (w' := w2) rfl (by rfl) (by go_simp) ⟨hd2, ?_⟩
   (try simp only [Act.put, zA, zB, zC, zD, zE, zF])
   refine zT 10 (.agg s2.arr) rfl (by kernel_rfl) (by rfl) hd2 (fun _ _ _ h => h) ?_ ?_
   ·intro W' hS'
    go_simp
   refine zT 11 (.agg #[.int .i64 r2.code, .int .i64 r2.value, rv]) rfl (by kernel_rfl) (by rfl) hd2 (fun _ _ _ h => h) ?_ ?_
   ·intro W' hS'
    go_simp
   (try simp only [Act.put, zA, zB, zC, zD, zE, zF])
   refine zO 12 (by kernel_rfl) ?_
   refine wpOp_store (p := T) (cs := s2.arr) rfl (by rfl) rfl (by go_simp) (by go_simp) hT2 rfl STStore rfl rfl (fun w5 hB5 hx5 => ?_)
   have hd5 := hd2.trans hx5 (fun q hq e => e)
   refine ⟨hd5, ?_⟩
   (try simp only [Act.put, zA, zB, zC, zD, zE, zF])
   refine wpAnyH_done (by kernel_rfl) ?_ _
   (try simp only [Act.put, zA, zB, zC, zD, zE, zF])
   have hO5 := (hO2.base hxq.size).keep hx5 (Apart.one hT2 (by decide))
   have hx5w : Ext Nothing w w5 := hx.trans hd5 (fun b hb e => absurd (show b = T from e) (by omega))
   have hok5 := own_good hO5 HG2.out (by have := HT.out; omega)
   have hA5 := hA.ext hd5 (fun e => absurd (show w.heap.size = T from e) (by omega))
   clear hd hd0 hd2 hd5 hOk hTq hxq hcq hok hT2 hx2 hO2 hok5
   go_wp2_with (first | go_skip | go_guarded)
   go_roundw
   case rel => exact ⟨t + 1, HT.out, by go_num, s2, hO5, HG2.out, hB5, hA5, hx5w⟩
   case measure => have := HT.out; simp [intOf]; omega
  ·have hnl : ¬ ((t : Int) < ln) := by omega
   have hok := own_good hO hG (by omega)
   have HG := Lib.hid hG
   have hzr := hx.size
   have p1 : wr.cell? ⟨w.heap.size, 1, none⟩ = some (.int .i64 a1) := hA.cell 1
   have p3 : wr.cell? ⟨w.heap.size, 3, none⟩ = some (.int .i64 a3) := hA.cell 3
   have p4 : wr.cell? ⟨w.heap.size, 4, none⟩ = some (.int .i64 a4) := hA.cell 4
   have p5 : wr.cell? ⟨w.heap.size, 5, none⟩ = some (.int .i64 a5) := hA.cell 5
   have p6 : wr.cell? ⟨w.heap.size, 6, none⟩ = some (.int .i64 a6) := hA.cell 6
   have p10 : wr.cell? ⟨w.heap.size, 10, none⟩ = some (.int .i64 a10) := hA.cell 10
   cases hst : decide (3 ≤ a10) with
   | true =>
    have hst' := of_decide_eq_true hst
    go_wp2_with (first | go_skip | go_guarded | (go_at_call 10; (with_reducible refine (lives21 _).mono ?_); rintro e w9 ⟨rfl, hx9⟩))
    go_ret
    exact ⟨rfl, hx.tr hx9⟩
   | false =>
    have hst' : ¬ (3 ≤ a10) := of_decide_eq_false hst
    have hov : overB (⟨a0, a1, a2, a3, a4, a5, a6, ⟨a7, a8⟩, a9, a10⟩ : AllocD) = false := by unfold overB; simpa using hst
    have HSL := Lib.hid (parts_slots HG.out.inv (a := (⟨a0, a1, a2, a3, a4, a5, a6, ⟨a7, a8⟩, a9, a10⟩ : AllocD)) hov)
    have HFE := Lib.hid (parts_fenced HG.out.inv (a := (⟨a0, a1, a2, a3, a4, a5, a6, ⟨a7, a8⟩, a9, a10⟩ : AllocD)) hov)
    have HRO := Lib.hid (parts_room HG.out.inv (a := (⟨a0, a1, a2, a3, a4, a5, a6, ⟨a7, a8⟩, a9, a10⟩ : AllocD)))
    have hal := Lib.hid hok.mA
    have hnl2 := Lib.hid hok.mN
    have hHN := Lib.hid hO.nl
    have htn := Lib.hid (show t ≤ 1048576 by omega)
    clear hst hov
    generalize hq : idxI (slotB a1 a3 a4) sV.allocs = q
    have HQ := Lib.hid hq
    clear hq
    rcases idx_cases (fun x : NodD => x.id == a5) sV.nodes with ⟨hi, hf, _⟩ | ⟨i, x, hi, hxi, hp, hf, _⟩
    ·have HI := Lib.hid hi
     have HF := Lib.hid (show (sV.data : StoreD).nodes.find? (fun n => n.id == a5) = none from hf)
     clear hi hf
     go_upto_region 10 with (first | go_skip | go_guarded | ((with_reducible refine isW ?_); refine wpList_load_blk rfl 30 _ rfl STStore T rfl sV.arr (show Blk _ _ 30 _ from by first | exact hT1 | exact hT) rfl ?_) | (go_at_call 11; (with_reducible refine (refSlot sV.AA sV.nA sV.cA sV.allocs a1 a3 a4 wr hok.sA (by have := hal.out; omega) _ _ _ _ _ _ _ _).mono ?_); rintro e w1 ⟨rfl, hx1⟩; (rw [HQ.out]); have hT1 := hT.e0 hx1; have hA1 := hA.e0 hx1; have p5' : w1.cell? ⟨w.heap.size, 5, none⟩ = some (.int .i64 a5) := hA1.cell 5) | (go_at_call 12; (with_reducible refine (refAtNode sV.AN sV.nN sV.cN sV.nodes a5 w1 (hok.sN.ext0 hx1) (by have := hnl2.out; omega) _ _ _ _ _ _ _ _).mono ?_); rintro e w2 ⟨rfl, hx2⟩; (rw [HI.out])))
     have hx12 := hx1.tr hx2
     have hT2 := hT.e0 hx12
     have hA2 := hA.e0 hx12
     have hok2 := hok.ext0 hx12
     have hz2 := hx12.size
     clear hT1 hA1 p5'
     go_upto_region 11 with (first | go_skip | go_guarded | ((with_reducible refine isW ?_); refine wpList_load_blk rfl 30 _ rfl STStore T rfl sV.arr (show Blk _ _ 30 _ from hT2) rfl ?_) | (go_at_call 13; (with_reducible refine (refCopy sV w2 hok2).mono ?_); rintro e w3 ⟨s', rfl, hC, hx3⟩))
     have HS1 := Lib.hid (show s'.allocs = sV.allocs from hC.am)
     have HS2 := Lib.hid (show s'.nodes = sV.nodes from hC.nm)
     have hO3 := hC.own (fun y hy => (HG.out.o64.x y.1 (List.mem_map_of_mem hy)).2)
     have hG3 := Lib.hid (show Fsm.Good t s'.data from hC.data ▸ HG.out)
     have hx4a : Ext Nothing w3 (w3.alloc (.cells s'.arr 30)) := Ext.auto
     have hN4 : Blk (w3.alloc (.cells s'.arr 30)) w3.heap.size 30 s'.arr := Blk.new _ _ _
     have hx4 := hx3.tr hx4a
     have hO4 := hO3.keep0 hx4a
     have hT4 := hT2.e0 hx4
     have hA4 := hA2.e0 hx4
     have hz3 := hx3.size
     have hxr4 := hx12.tr hx4
     generalize hUU : w3.heap.size = U at hN4 hz3 ⊢
     generalize (w3.alloc (.cells s'.arr 30)) = w4 at hN4 hx4 hO4 hT4 hA4 hxr4 ⊢
     clear hx4a hUU hC hx3 hO3 hx1 hx2
     have u5 : w4.cell? ⟨U, 5, none⟩ = some (.slice s'.AA s'.nA s'.cA) := hN4.cell 5
     have HAL := Lib.hid hO4.al
     have hUw : U < w4.heap.size := hN4.lt
     have hal4 : s'.nA < 67108864 := by have h1 := hO4.al; have h2 := HS1.out; have h3 := hok.sA.len; have h4 := hok.mA; rw [h2] at h1; omega
     have hz4 := hx4.size
     have ho4a := hO4.a
     rw [← HAL.out] at ho4a
     go_upto_region 12 with (first | go_skip | go_guarded | ((with_reducible refine isW ?_); refine wpList_load_blk rfl 58 _ rfl STAlloc w.heap.size rfl #[.int .i64 a0, .int .i64 a1, .int .i64 a2, .int .i64 a3, .int .i64 a4, .int .i64 a5, .int .i64 a6, .int .i64 a7, .int .i64 a8, .bool a9, .int .i64 a10] (show Blk _ _ 58 _ from hA4) rfl ?_) | ((with_reducible refine isW2 ?_); refine wpList_push rfl rfl 25 _ rfl _ _ rfl SRAlloc #[.int .i64 a0, .int .i64 a1, .int .i64 a2, .int .i64 a3, .int .i64 a4, .int .i64 a5, .int .i64 a6, .int .i64 a7, .int .i64 a8, .bool a9, .int .i64 a10] rfl rfl w2.heap.size (.slice s'.AA s'.nA s'.cA) s'.nA (s'.allocs.flatMap AllocD.cells) rfl rfl ho4a rfl hal4 (by omega) ?_; intro A2 c2 wb ob hxb; have hNb := blk_apart hN4 hxb (Apart.row ho4a (by decide)); have v5 : wb.cell? ⟨U, 5, none⟩ = some (.slice s'.AA s'.nA s'.cA) := hNb.cell 5; have v5f : wb.frozen? ⟨U, 5, none⟩ = false := hNb.frozen 5))
     have hU5 : Blk (wb.setCell ⟨U, 5, none⟩ (.slice A2 (s'.nA + 1) c2)) U 30 ({ s' with AA := A2, nA := s'.nA + 1, cA := c2, allocs := s'.allocs ++ [(⟨a0, a1, a2, a3, a4, a5, a6, ⟨a7, a8⟩, a9, a10⟩ : AllocD)] } : StoreV).arr := hNb.set_ 5 _
     have hsx : Ext (fun q => q = U) wb (wb.setCell ⟨U, 5, none⟩ (.slice A2 (s'.nA + 1) c2)) := Ext.set1 _ _ _ _
     have hx4w : Ext (fun q => (Value.slice s'.AA s'.nA s'.cA).ownBlock = some q ∨ q = U) w4 (wb.setCell ⟨U, 5, none⟩ (.slice A2 (s'.nA + 1) c2)) := (hxb.mono (fun _ _ e => .inl e)).trans hsx (fun _ _ e => .inr e)
     have hnot : ∀ q, q < w2.heap.size → ¬ ((Value.slice s'.AA s'.nA s'.cA).ownBlock = some q ∨ q = U) := fun q hq e => e.elim (fun e => by have := own_ge ho4a e; omega) (fun e => by omega)
     have hT5 := hT4.ext hx4w (hnot T (by have := hT2.lt; omega))
     have hA5 := hA4.ext hx4w (hnot w.heap.size (by have := hA2.lt; omega))
     have hxr5 : Ext Nothing wr (wb.setCell ⟨U, 5, none⟩ (.slice A2 (s'.nA + 1) c2)) := hxr4.trans hx4w (fun q hq e => absurd e (hnot q (by omega)))
     have ob2 := own_snoc (x := (⟨a0, a1, a2, a3, a4, a5, a6, ⟨a7, a8⟩, a9, a10⟩ : AllocD)) ob rfl HAL.out.symm
     have hO5 : OwnS w2.heap.size (wb.setCell ⟨U, 5, none⟩ (.slice A2 (s'.nA + 1) c2)) (s'.setA A2 c2 (s'.allocs ++ [(⟨a0, a1, a2, a3, a4, a5, a6, ⟨a7, a8⟩, a9, a10⟩ : AllocD)])) := hO4.wA hx4w (Apart.or (Apart.row ho4a (by decide)) (Apart.one hN4 (by decide))) (own_ext ob2 hsx (fun g hg e => absurd hg (by have h8 := own_blk ob2 hg; obtain ⟨cs8, h8⟩ := h8; exact absurd (show g = U from e) (Blk.ne h8 hNb (by decide)))))
     have hok5' := parts_ok hO5 hG3.out htn.out ha
     have he5 : ({ s' with AA := A2, nA := s'.nA + 1, cA := c2, allocs := s'.allocs ++ [(⟨a0, a1, a2, a3, a4, a5, a6, ⟨a7, a8⟩, a9, a10⟩ : AllocD)] } : StoreV) = (s'.setA A2 c2 (s'.allocs ++ [(⟨a0, a1, a2, a3, a4, a5, a6, ⟨a7, a8⟩, a9, a10⟩ : AllocD)])) := by have := HAL.out; simp [StoreV.setA, this]
     have hok5 : ({ s' with AA := A2, nA := s'.nA + 1, cA := c2, allocs := s'.allocs ++ [(⟨a0, a1, a2, a3, a4, a5, a6, ⟨a7, a8⟩, a9, a10⟩ : AllocD)] } : StoreV).Ok (wb.setCell ⟨U, 5, none⟩ (.slice A2 (s'.nA + 1) c2)) := he5 ▸ hok5'
     clear hO4 hO5 hok5' he5 hx4w hnot ob2 ob hsx hxb hNb v5 v5f u5 hT4 hA4 hN4 ho4a hT2 hA2 hxr4
     generalize (wb.setCell ⟨U, 5, none⟩ (.slice A2 (s'.nA + 1) c2)) = w5 at hU5 hT5 hA5 hxr5 hok5 ⊢
     generalize hu : usedS (s'.allocs ++ [(⟨a0, a1, a2, a3, a4, a5, a6, ⟨a7, a8⟩, a9, a10⟩ : AllocD)]) a5 = u
     obtain ⟨u1, u2⟩ := u
     have HU := Lib.hid hu
     clear hu
     have p5 : w5.cell? ⟨w.heap.size, 5, none⟩ = some (.int .i64 a5) := hA5.cell 5
     have hA51 := hok5.sA
     have hal5 : s'.nA + 1 ≤ 67108864 := by omega
     go_upto_region 13 with (first | go_skip | go_guarded | ((with_reducible refine isW ?_); refine wpList_load_blk rfl 30 _ rfl STStore U rfl ({ s' with AA := A2, nA := s'.nA + 1, cA := c2, allocs := s'.allocs ++ [(⟨a0, a1, a2, a3, a4, a5, a6, ⟨a7, a8⟩, a9, a10⟩ : AllocD)] } : StoreV).arr (show Blk _ _ 30 _ from hU5) rfl ?_) | (go_at_call 14; (with_reducible refine (refUsed A2 (s'.nA + 1) c2 (s'.allocs ++ [(⟨a0, a1, a2, a3, a4, a5, a6, ⟨a7, a8⟩, a9, a10⟩ : AllocD)]) a5 w5 hA51 hal5 _ _ _ _ _ _ _ _).mono ?_); rintro e w6 ⟨rfl, hx6⟩; (rw [HU.out])))
     have hx7a : Ext Nothing w6 (w6.alloc (.cells #[.int .i64 u1, .int .i64 u2] 41)) := Ext.auto
     have hV5 : Blk (w6.alloc (.cells #[.int .i64 u1, .int .i64 u2] 41)) w6.heap.size 41 #[.int .i64 u1, .int .i64 u2] := Blk.new _ _ _
     have hx57 := hx6.tr hx7a
     have hU7 := hU5.e0 hx57
     have hT7 := hT5.e0 hx57
     have hA7 := hA5.e0 hx57
     have hok7 := hok5.ext0 hx57
     have hxr7 := hxr5.tr hx57
     clear hU5 hT5 hA5 hok5 hxr5 p5 hA51
     generalize w6.heap.size = V at hV5 ⊢
     generalize (w6.alloc (.cells #[.int .i64 u1, .int .i64 u2] 41)) = w7 at hV5 hU7 hT7 hA7 hok7 hxr7 hx57 hx7a ⊢
     clear hx57 hx7a hx6
     have HSL2 := Lib.hid (show slotsB (s'.allocs ++ [(⟨a0, a1, a2, a3, a4, a5, a6, ⟨a7, a8⟩, a9, a10⟩ : AllocD)]) = !decide (0 ≤ q) by rw [HS1.out]; exact HSL.out.trans (by rw [show idxI (slotB a1 a3 a4) sV.data.allocs = q from HQ.out]))
     generalize hhb : decide (0 ≤ q) = hb at HSL2 ⊢
     clear hhb
     go_cut [64] from 61 to 63 (fun e wx => e = .bool false ∧ Ext Nothing w7 wx)
     case first =>
      cases hb with
      | true =>
       go_wp2_with (first | go_skip | go_guarded | ((with_reducible refine isW ?_); refine wpList_load_blk rfl 30 _ rfl STStore U rfl ({ s' with AA := A2, nA := s'.nA + 1, cA := c2, allocs := s'.allocs ++ [(⟨a0, a1, a2, a3, a4, a5, a6, ⟨a7, a8⟩, a9, a10⟩ : AllocD)] } : StoreV).arr (show Blk _ _ 30 _ from hU7) rfl ?_) | (go_at_call 8; (with_reducible refine (slots_any ({ s' with AA := A2, nA := s'.nA + 1, cA := c2, allocs := s'.allocs ++ [(⟨a0, a1, a2, a3, a4, a5, a6, ⟨a7, a8⟩, a9, a10⟩ : AllocD)] } : StoreV) w7 hok7).mono ?_); rintro e w8 ⟨rfl, hx8⟩; (rw [show slotsB ({ s' with AA := A2, nA := s'.nA + 1, cA := c2, allocs := s'.allocs ++ [(⟨a0, a1, a2, a3, a4, a5, a6, ⟨a7, a8⟩, a9, a10⟩ : AllocD)] } : StoreV).allocs = _ from HSL2.out])))
       go_meet
       exact ⟨rfl, hx8⟩
      | false =>
       go_wp2_with (first | go_skip | go_guarded | ((with_reducible refine isW ?_); refine wpList_load_blk rfl 30 _ rfl STStore U rfl ({ s' with AA := A2, nA := s'.nA + 1, cA := c2, allocs := s'.allocs ++ [(⟨a0, a1, a2, a3, a4, a5, a6, ⟨a7, a8⟩, a9, a10⟩ : AllocD)] } : StoreV).arr (show Blk _ _ 30 _ from hU7) rfl ?_) | (go_at_call 8; (with_reducible refine (slots_any ({ s' with AA := A2, nA := s'.nA + 1, cA := c2, allocs := s'.allocs ++ [(⟨a0, a1, a2, a3, a4, a5, a6, ⟨a7, a8⟩, a9, a10⟩ : AllocD)] } : StoreV) w7 hok7).mono ?_); rintro e w8 ⟨rfl, hx8⟩; (rw [show slotsB ({ s' with AA := A2, nA := s'.nA + 1, cA := c2, allocs := s'.allocs ++ [(⟨a0, a1, a2, a3, a4, a5, a6, ⟨a7, a8⟩, a9, a10⟩ : AllocD)] } : StoreV).allocs = _ from HSL2.out])))
       go_meet
       exact ⟨rfl, hx8⟩
     case rest =>
      obtain ⟨rfl, hx8⟩ := hcut
      rename World => w8
      have hV7 := hV5
      have hU8 := hU7.e0 hx8
      have hT8 := hT7.e0 hx8
      have hA8 := hA7.e0 hx8
      have hok8 := hok7.ext0 hx8
      have hxr8 := hxr7.tr hx8
      have hV8 := hV7.e0 hx8
      clear hU7 hT7 hA7 hok7 hxr7 hV7 hV5
      go_upto_region 15 with (first | go_skip | go_guarded)
      have HFE2 := Lib.hid (show (!((s'.allocs ++ [(⟨a0, a1, a2, a3, a4, a5, a6, ⟨a7, a8⟩, a9, a10⟩ : AllocD)]).any (fencedB s'.nodes))) = false by rw [HS1.out, HS2.out]; exact HFE.out.trans (by rw [HF.out]))
      have HRO2 := Lib.hid (show (!(s'.nodes.any (roomB (s'.allocs ++ [(⟨a0, a1, a2, a3, a4, a5, a6, ⟨a7, a8⟩, a9, a10⟩ : AllocD)])))) = true by rw [HS1.out, HS2.out]; exact HRO.out.trans (by rw [HF.out]))
      go_quiet (fail)
      have hdq := (Ext.refl Nothing w8).drewN nq
      generalize w8.drewN nq = w9 at hdq ⊢
      have hU9 := hU8.e0 hdq
      have hT9 := hT8.e0 hdq
      have hA9 := hA8.e0 hdq
      have hok9 := hok8.ext0 hdq
      have hxr9 := hxr8.tr hdq
      have hV9 := hV8.e0 hdq
      clear hU8 hT8 hA8 hok8 hxr8 hV8
      go_wp2_with (first | go_skip | go_guarded | ((with_reducible refine isW ?_); refine wpList_load_blk rfl 30 _ rfl STStore U rfl ({ s' with AA := A2, nA := s'.nA + 1, cA := c2, allocs := s'.allocs ++ [(⟨a0, a1, a2, a3, a4, a5, a6, ⟨a7, a8⟩, a9, a10⟩ : AllocD)] } : StoreV).arr (show Blk _ _ 30 _ from by first | exact hU11 | exact hU9) rfl ?_) | (go_at_call 9; (with_reducible refine (fenced_any ({ s' with AA := A2, nA := s'.nA + 1, cA := c2, allocs := s'.allocs ++ [(⟨a0, a1, a2, a3, a4, a5, a6, ⟨a7, a8⟩, a9, a10⟩ : AllocD)] } : StoreV) w9 hok9).mono ?_); rintro e w11 ⟨rfl, hx11⟩; (rw [show (!(({ s' with AA := A2, nA := s'.nA + 1, cA := c2, allocs := s'.allocs ++ [(⟨a0, a1, a2, a3, a4, a5, a6, ⟨a7, a8⟩, a9, a10⟩ : AllocD)] } : StoreV).allocs.any (fencedB ({ s' with AA := A2, nA := s'.nA + 1, cA := c2, allocs := s'.allocs ++ [(⟨a0, a1, a2, a3, a4, a5, a6, ⟨a7, a8⟩, a9, a10⟩ : AllocD)] } : StoreV).nodes))) = false from HFE2.out]); have hU11 := hU9.e0 hx11; have hok11 := hok9.ext0 hx11) | (go_at_call 7; (with_reducible refine (room_any ({ s' with AA := A2, nA := s'.nA + 1, cA := c2, allocs := s'.allocs ++ [(⟨a0, a1, a2, a3, a4, a5, a6, ⟨a7, a8⟩, a9, a10⟩ : AllocD)] } : StoreV) w11 hok11).mono ?_); rintro e w12 ⟨rfl, hx12'⟩; (rw [show (!(({ s' with AA := A2, nA := s'.nA + 1, cA := c2, allocs := s'.allocs ++ [(⟨a0, a1, a2, a3, a4, a5, a6, ⟨a7, a8⟩, a9, a10⟩ : AllocD)] } : StoreV).nodes.any (roomB ({ s' with AA := A2, nA := s'.nA + 1, cA := c2, allocs := s'.allocs ++ [(⟨a0, a1, a2, a3, a4, a5, a6, ⟨a7, a8⟩, a9, a10⟩ : AllocD)] } : StoreV).allocs))) = true from HRO2.out])) | (go_at_call 10; (with_reducible refine (lives21 _).mono ?_); rintro e w13 ⟨rfl, hx13⟩))
      go_ret
      exact ⟨rfl, (((hx.tr hxr9).tr hx11).tr hx12').tr hx13⟩
    ·obtain ⟨hi1, hi2⟩ := List.getElem?_eq_some_iff.1 hxi
     have HI := Lib.hid hi
     have hk0 : (0 : Int) ≤ (i : Int) := by omega
     have hk1 : (i : Int) < sV.nN := by have := hHN.out; omega
     have hng : ¬ ((i : Int) < 0) := by omega
     obtain ⟨_, b, off, hAe, hce⟩ := hok.sN.get (Ext.refl Nothing wr) (k := i) (by have := hHN.out; omega)
     rw [hi2] at hce
     have HAE := Lib.hid hAe
     obtain ⟨x0, ⟨x1, x2⟩, x3, x4, x5, x6, x7⟩ := x
     have hbr : b < wr.heap.size := World.block_lt_of_cell? wr _ (hce 3 (.bool x3) rfl)
     have HF := Lib.hid (show (sV.data : StoreD).nodes.find? (fun n => n.id == a5) = some ⟨x0, ⟨x1, x2⟩, x3, x4, x5, x6, x7⟩ from hf)
     have n3 : wr.cell? ⟨b, off + i * 8 + 3, none⟩ = some (.bool x3) := hce 3 _ rfl
     have n6 : wr.cell? ⟨b, off + i * 8 + 6, none⟩ = some (.int .i64 x6) := hce 6 _ rfl
     have n1 : wr.cell? ⟨b, off + i * 8 + 1, none⟩ = some (.int .i64 x1) := hce 1 _ rfl
     have n2 : wr.cell? ⟨b, off + i * 8 + 2, none⟩ = some (.int .i64 x2) := hce 2 _ rfl
     have NN := Lib.hid (And.intro n3 (And.intro n6 (And.intro n1 n2)))
     clear n3 n6 n1 n2
     clear hi hf hxi hp hi2 hAe hce
     go_upto_region 10 with (first | go_skip | go_guarded | ((with_reducible refine isW ?_); refine wpList_load_blk rfl 30 _ rfl STStore T rfl sV.arr (show Blk _ _ 30 _ from by first | exact hT1 | exact hT) rfl ?_) | (go_at_call 11; (with_reducible refine (refSlot sV.AA sV.nA sV.cA sV.allocs a1 a3 a4 wr hok.sA (by have := hal.out; omega) _ _ _ _ _ _ _ _).mono ?_); rintro e w1 ⟨rfl, hx1⟩; (rw [HQ.out]); have hT1 := hT.e0 hx1; have hA1 := hA.e0 hx1; have p5' : w1.cell? ⟨w.heap.size, 5, none⟩ = some (.int .i64 a5) := hA1.cell 5) | (go_at_call 12; (with_reducible refine (refAtNode sV.AN sV.nN sV.cN sV.nodes a5 w1 (hok.sN.ext0 hx1) (by have := hnl2.out; omega) _ _ _ _ _ _ _ _).mono ?_); rintro e w2 ⟨rfl, hx2⟩; (rw [HI.out])))
     have hx12 := hx1.tr hx2
     have hT2 := hT.e0 hx12
     have hA2 := hA.e0 hx12
     have hok2 := hok.ext0 hx12
     have hz2 := hx12.size
     clear hT1 hA1 p5'
     go_upto_region 11 with (first | go_skip | go_guarded | ((with_reducible refine isW ?_); refine wpList_load_blk rfl 30 _ rfl STStore T rfl sV.arr (show Blk _ _ 30 _ from hT2) rfl ?_) | (go_at_call 13; (with_reducible refine (refCopy sV w2 hok2).mono ?_); rintro e w3 ⟨s', rfl, hC, hx3⟩))
     have HS1 := Lib.hid (show s'.allocs = sV.allocs from hC.am)
     have HS2 := Lib.hid (show s'.nodes = sV.nodes from hC.nm)
     have hO3 := hC.own (fun y hy => (HG.out.o64.x y.1 (List.mem_map_of_mem hy)).2)
     have hG3 := Lib.hid (show Fsm.Good t s'.data from hC.data ▸ HG.out)
     have hx4a : Ext Nothing w3 (w3.alloc (.cells s'.arr 30)) := Ext.auto
     have hN4 : Blk (w3.alloc (.cells s'.arr 30)) w3.heap.size 30 s'.arr := Blk.new _ _ _
     have hx4 := hx3.tr hx4a
     have hO4 := hO3.keep0 hx4a
     have hT4 := hT2.e0 hx4
     have hA4 := hA2.e0 hx4
     have hz3 := hx3.size
     have hxr4 := hx12.tr hx4
     generalize hUU : w3.heap.size = U at hN4 hz3 ⊢
     generalize (w3.alloc (.cells s'.arr 30)) = w4 at hN4 hx4 hO4 hT4 hA4 hxr4 ⊢
     clear hx4a hUU hC hx3 hO3 hx1 hx2
     have u5 : w4.cell? ⟨U, 5, none⟩ = some (.slice s'.AA s'.nA s'.cA) := hN4.cell 5
     have HAL := Lib.hid hO4.al
     have hUw : U < w4.heap.size := hN4.lt
     have hal4 : s'.nA < 67108864 := by have h1 := hO4.al; have h2 := HS1.out; have h3 := hok.sA.len; have h4 := hok.mA; rw [h2] at h1; omega
     have hz4 := hx4.size
     have ho4a := hO4.a
     rw [← HAL.out] at ho4a
     go_upto_region 12 with (first | go_skip | go_guarded | ((with_reducible refine isW ?_); refine wpList_load_blk rfl 58 _ rfl STAlloc w.heap.size rfl #[.int .i64 a0, .int .i64 a1, .int .i64 a2, .int .i64 a3, .int .i64 a4, .int .i64 a5, .int .i64 a6, .int .i64 a7, .int .i64 a8, .bool a9, .int .i64 a10] (show Blk _ _ 58 _ from hA4) rfl ?_) | ((with_reducible refine isW2 ?_); refine wpList_push rfl rfl 25 _ rfl _ _ rfl SRAlloc #[.int .i64 a0, .int .i64 a1, .int .i64 a2, .int .i64 a3, .int .i64 a4, .int .i64 a5, .int .i64 a6, .int .i64 a7, .int .i64 a8, .bool a9, .int .i64 a10] rfl rfl w2.heap.size (.slice s'.AA s'.nA s'.cA) s'.nA (s'.allocs.flatMap AllocD.cells) rfl rfl ho4a rfl hal4 (by omega) ?_; intro A2 c2 wb ob hxb; have hNb := blk_apart hN4 hxb (Apart.row ho4a (by decide)); have v5 : wb.cell? ⟨U, 5, none⟩ = some (.slice s'.AA s'.nA s'.cA) := hNb.cell 5; have v5f : wb.frozen? ⟨U, 5, none⟩ = false := hNb.frozen 5))
     have hU5 : Blk (wb.setCell ⟨U, 5, none⟩ (.slice A2 (s'.nA + 1) c2)) U 30 ({ s' with AA := A2, nA := s'.nA + 1, cA := c2, allocs := s'.allocs ++ [(⟨a0, a1, a2, a3, a4, a5, a6, ⟨a7, a8⟩, a9, a10⟩ : AllocD)] } : StoreV).arr := hNb.set_ 5 _
     have hsx : Ext (fun q => q = U) wb (wb.setCell ⟨U, 5, none⟩ (.slice A2 (s'.nA + 1) c2)) := Ext.set1 _ _ _ _
     have hx4w : Ext (fun q => (Value.slice s'.AA s'.nA s'.cA).ownBlock = some q ∨ q = U) w4 (wb.setCell ⟨U, 5, none⟩ (.slice A2 (s'.nA + 1) c2)) := (hxb.mono (fun _ _ e => .inl e)).trans hsx (fun _ _ e => .inr e)
     have hnot : ∀ q, q < w2.heap.size → ¬ ((Value.slice s'.AA s'.nA s'.cA).ownBlock = some q ∨ q = U) := fun q hq e => e.elim (fun e => by have := own_ge ho4a e; omega) (fun e => by omega)
     have hT5 := hT4.ext hx4w (hnot T (by have := hT2.lt; omega))
     have hA5 := hA4.ext hx4w (hnot w.heap.size (by have := hA2.lt; omega))
     have hxr5 : Ext Nothing wr (wb.setCell ⟨U, 5, none⟩ (.slice A2 (s'.nA + 1) c2)) := hxr4.trans hx4w (fun q hq e => absurd e (hnot q (by omega)))
     have ob2 := own_snoc (x := (⟨a0, a1, a2, a3, a4, a5, a6, ⟨a7, a8⟩, a9, a10⟩ : AllocD)) ob rfl HAL.out.symm
     have hO5 : OwnS w2.heap.size (wb.setCell ⟨U, 5, none⟩ (.slice A2 (s'.nA + 1) c2)) (s'.setA A2 c2 (s'.allocs ++ [(⟨a0, a1, a2, a3, a4, a5, a6, ⟨a7, a8⟩, a9, a10⟩ : AllocD)])) := hO4.wA hx4w (Apart.or (Apart.row ho4a (by decide)) (Apart.one hN4 (by decide))) (own_ext ob2 hsx (fun g hg e => absurd hg (by have h8 := own_blk ob2 hg; obtain ⟨cs8, h8⟩ := h8; exact absurd (show g = U from e) (Blk.ne h8 hNb (by decide)))))
     have hok5' := parts_ok hO5 hG3.out htn.out ha
     have he5 : ({ s' with AA := A2, nA := s'.nA + 1, cA := c2, allocs := s'.allocs ++ [(⟨a0, a1, a2, a3, a4, a5, a6, ⟨a7, a8⟩, a9, a10⟩ : AllocD)] } : StoreV) = (s'.setA A2 c2 (s'.allocs ++ [(⟨a0, a1, a2, a3, a4, a5, a6, ⟨a7, a8⟩, a9, a10⟩ : AllocD)])) := by have := HAL.out; simp [StoreV.setA, this]
     have hok5 : ({ s' with AA := A2, nA := s'.nA + 1, cA := c2, allocs := s'.allocs ++ [(⟨a0, a1, a2, a3, a4, a5, a6, ⟨a7, a8⟩, a9, a10⟩ : AllocD)] } : StoreV).Ok (wb.setCell ⟨U, 5, none⟩ (.slice A2 (s'.nA + 1) c2)) := he5 ▸ hok5'
     clear hO4 hO5 hok5' he5 hx4w hnot ob2 ob hsx hxb hNb v5 v5f u5 hT4 hA4 hN4 ho4a hT2 hA2 hxr4
     generalize (wb.setCell ⟨U, 5, none⟩ (.slice A2 (s'.nA + 1) c2)) = w5 at hU5 hT5 hA5 hxr5 hok5 ⊢
     generalize hu : usedS (s'.allocs ++ [(⟨a0, a1, a2, a3, a4, a5, a6, ⟨a7, a8⟩, a9, a10⟩ : AllocD)]) a5 = u
     obtain ⟨u1, u2⟩ := u
     have HU := Lib.hid hu
     clear hu
     have p5 : w5.cell? ⟨w.heap.size, 5, none⟩ = some (.int .i64 a5) := hA5.cell 5
     have hA51 := hok5.sA
     have hal5 : s'.nA + 1 ≤ 67108864 := by omega
     go_upto_region 13 with (first | go_skip | go_guarded | ((with_reducible refine isW ?_); refine wpList_load_blk rfl 30 _ rfl STStore U rfl ({ s' with AA := A2, nA := s'.nA + 1, cA := c2, allocs := s'.allocs ++ [(⟨a0, a1, a2, a3, a4, a5, a6, ⟨a7, a8⟩, a9, a10⟩ : AllocD)] } : StoreV).arr (show Blk _ _ 30 _ from hU5) rfl ?_) | (go_at_call 14; (with_reducible refine (refUsed A2 (s'.nA + 1) c2 (s'.allocs ++ [(⟨a0, a1, a2, a3, a4, a5, a6, ⟨a7, a8⟩, a9, a10⟩ : AllocD)]) a5 w5 hA51 hal5 _ _ _ _ _ _ _ _).mono ?_); rintro e w6 ⟨rfl, hx6⟩; (rw [HU.out])))
     have hx7a : Ext Nothing w6 (w6.alloc (.cells #[.int .i64 u1, .int .i64 u2] 41)) := Ext.auto
     have hV5 : Blk (w6.alloc (.cells #[.int .i64 u1, .int .i64 u2] 41)) w6.heap.size 41 #[.int .i64 u1, .int .i64 u2] := Blk.new _ _ _
     have hx57 := hx6.tr hx7a
     have hU7 := hU5.e0 hx57
     have hT7 := hT5.e0 hx57
     have hA7 := hA5.e0 hx57
     have hok7 := hok5.ext0 hx57
     have hxr7 := hxr5.tr hx57
     clear hU5 hT5 hA5 hok5 hxr5 p5 hA51
     generalize w6.heap.size = V at hV5 ⊢
     generalize (w6.alloc (.cells #[.int .i64 u1, .int .i64 u2] 41)) = w7 at hV5 hU7 hT7 hA7 hok7 hxr7 hx57 hx7a ⊢
     clear hx57 hx7a hx6
     have HSL2 := Lib.hid (show slotsB (s'.allocs ++ [(⟨a0, a1, a2, a3, a4, a5, a6, ⟨a7, a8⟩, a9, a10⟩ : AllocD)]) = !decide (0 ≤ q) by rw [HS1.out]; exact HSL.out.trans (by rw [show idxI (slotB a1 a3 a4) sV.data.allocs = q from HQ.out]))
     generalize hhb : decide (0 ≤ q) = hb at HSL2 ⊢
     clear hhb
     go_cut [64] from 61 to 63 (fun e wx => e = .bool false ∧ Ext Nothing w7 wx)
     case first =>
      cases hb with
      | true =>
       go_wp2_with (first | go_skip | go_guarded | ((with_reducible refine isW ?_); refine wpList_load_blk rfl 30 _ rfl STStore U rfl ({ s' with AA := A2, nA := s'.nA + 1, cA := c2, allocs := s'.allocs ++ [(⟨a0, a1, a2, a3, a4, a5, a6, ⟨a7, a8⟩, a9, a10⟩ : AllocD)] } : StoreV).arr (show Blk _ _ 30 _ from hU7) rfl ?_) | (go_at_call 8; (with_reducible refine (slots_any ({ s' with AA := A2, nA := s'.nA + 1, cA := c2, allocs := s'.allocs ++ [(⟨a0, a1, a2, a3, a4, a5, a6, ⟨a7, a8⟩, a9, a10⟩ : AllocD)] } : StoreV) w7 hok7).mono ?_); rintro e w8 ⟨rfl, hx8⟩; (rw [show slotsB ({ s' with AA := A2, nA := s'.nA + 1, cA := c2, allocs := s'.allocs ++ [(⟨a0, a1, a2, a3, a4, a5, a6, ⟨a7, a8⟩, a9, a10⟩ : AllocD)] } : StoreV).allocs = _ from HSL2.out])))
       go_meet
       exact ⟨rfl, hx8⟩
      | false =>
       go_wp2_with (first | go_skip | go_guarded | ((with_reducible refine isW ?_); refine wpList_load_blk rfl 30 _ rfl STStore U rfl ({ s' with AA := A2, nA := s'.nA + 1, cA := c2, allocs := s'.allocs ++ [(⟨a0, a1, a2, a3, a4, a5, a6, ⟨a7, a8⟩, a9, a10⟩ : AllocD)] } : StoreV).arr (show Blk _ _ 30 _ from hU7) rfl ?_) | (go_at_call 8; (with_reducible refine (slots_any ({ s' with AA := A2, nA := s'.nA + 1, cA := c2, allocs := s'.allocs ++ [(⟨a0, a1, a2, a3, a4, a5, a6, ⟨a7, a8⟩, a9, a10⟩ : AllocD)] } : StoreV) w7 hok7).mono ?_); rintro e w8 ⟨rfl, hx8⟩; (rw [show slotsB ({ s' with AA := A2, nA := s'.nA + 1, cA := c2, allocs := s'.allocs ++ [(⟨a0, a1, a2, a3, a4, a5, a6, ⟨a7, a8⟩, a9, a10⟩ : AllocD)] } : StoreV).allocs = _ from HSL2.out])))
       go_meet
       exact ⟨rfl, hx8⟩
     case rest =>
      obtain ⟨rfl, hx8⟩ := hcut
      rename World => w8
      have hV7 := hV5
      have hU8 := hU7.e0 hx8
      have hT8 := hT7.e0 hx8
      have hA8 := hA7.e0 hx8
      have hok8 := hok7.ext0 hx8
      have hxr8 := hxr7.tr hx8
      have hV8 := hV7.e0 hx8
      clear hU7 hT7 hA7 hok7 hxr7 hV7 hV5
      go_upto_region 15 with (first | go_skip | go_guarded)
      have HFE2 := Lib.hid (show (!((s'.allocs ++ [(⟨a0, a1, a2, a3, a4, a5, a6, ⟨a7, a8⟩, a9, a10⟩ : AllocD)]).any (fencedB s'.nodes))) = (x3 && (x6 == a6)) by rw [HS1.out, HS2.out]; exact HFE.out.trans (by rw [HF.out]))
      have HRO2 := Lib.hid (show (!(s'.nodes.any (roomB (s'.allocs ++ [(⟨a0, a1, a2, a3, a4, a5, a6, ⟨a7, a8⟩, a9, a10⟩ : AllocD)])))) = (decide (u1 ≤ x1) && decide (u2 ≤ x2)) by have h9 := HU.out; rw [HS1.out] at h9 ⊢; rw [HS2.out]; exact HRO.out.trans (by rw [HF.out]; simp only []; rw [show usedS (sV.data.allocs ++ [(⟨a0, a1, a2, a3, a4, a5, a6, ⟨a7, a8⟩, a9, a10⟩ : AllocD)]) a5 = ⟨u1, u2⟩ from h9]))
      have hT_w8 := hT8
      have hA_w8 := hA8
      have hV_w8 := hV8
      obtain ⟨n3, n6, n1, n2⟩ := NN.out
      have m3 := hxr8.c0 n3
      have m6 := hxr8.c0 n6
      have m1 := hxr8.c0 n1
      have m2 := hxr8.c0 n2
      have m2b : w8.cell? ⟨b, off + i * 8 + 1 + 1, none⟩ = some (.int .i64 x2) := m2
      clear n3 n6 n1 n2
      have t4 : w8.cell? ⟨T, 4, none⟩ = some (.slice (some ⟨b, off, none⟩) sV.nN sV.cN) := by rw [← HAE.out]; exact hT_w8.cell 4
      have p6 : w8.cell? ⟨w.heap.size, 6, none⟩ = some (.int .i64 a6) := hA_w8.cell 6
      have v0 : w8.cell? ⟨V, 0, none⟩ = some (.int .i64 u1) := hV_w8.cell 0
      have v1 : w8.cell? ⟨V, 1, none⟩ = some (.int .i64 u2) := hV_w8.cell 1
      go_cut [11] from 65 to 85 (fun e wx => e = .bool (x3 && (x6 == a6)) ∧ Ext Nothing w8 wx)
      case first =>
       cases y1 : (x3) with
       | true =>
        cases y2 : (x6 == a6) with
        | true =>
         go_quiet (fail)
         go_wp2
         go_meet
         exact ⟨by rw [y1, y2]; rfl, (Ext.refl _ _).drewN _⟩
        | false =>
         go_quiet (fail)
         go_wp2
         go_meet
         exact ⟨by rw [y1, y2]; rfl, (Ext.refl _ _).drewN _⟩
       | false =>
        go_quiet (fail)
        go_wp2
        go_meet
        exact ⟨by rw [y1]; rfl, (Ext.refl _ _).drewN _⟩
      case rest =>
       obtain ⟨rfl, hdq⟩ := hcut
       clear m3 m6 m1 m2 m2b t4 p6 v0 v1 hT_w8 hA_w8 hV_w8
       rename World => w9
       have hU9 := hU8.e0 hdq
       have hT9 := hT8.e0 hdq
       have hA9 := hA8.e0 hdq
       have hok9 := hok8.ext0 hdq
       have hxr9 := hxr8.tr hdq
       have hV9 := hV8.e0 hdq
       clear hU8 hT8 hA8 hok8 hxr8 hV8
       generalize hfx : (x3 && (x6 == a6)) = fx
       have HFX := Lib.hid hfx
       clear hfx
       go_upto_region 16 with (first | go_skip | go_guarded)
       cases fx with
       | true =>
        go_upto_region 20 with (first | go_skip | go_guarded | ((with_reducible refine isW ?_); refine wpList_load_blk rfl 30 _ rfl STStore U rfl ({ s' with AA := A2, nA := s'.nA + 1, cA := c2, allocs := s'.allocs ++ [(⟨a0, a1, a2, a3, a4, a5, a6, ⟨a7, a8⟩, a9, a10⟩ : AllocD)] } : StoreV).arr (show Blk _ _ 30 _ from hU9) rfl ?_) | (go_at_call 9; (with_reducible refine (fenced_any ({ s' with AA := A2, nA := s'.nA + 1, cA := c2, allocs := s'.allocs ++ [(⟨a0, a1, a2, a3, a4, a5, a6, ⟨a7, a8⟩, a9, a10⟩ : AllocD)] } : StoreV) w9 hok9).mono ?_); rintro e w11 ⟨rfl, hx11⟩; (rw [show (!(({ s' with AA := A2, nA := s'.nA + 1, cA := c2, allocs := s'.allocs ++ [(⟨a0, a1, a2, a3, a4, a5, a6, ⟨a7, a8⟩, a9, a10⟩ : AllocD)] } : StoreV).allocs.any (fencedB ({ s' with AA := A2, nA := s'.nA + 1, cA := c2, allocs := s'.allocs ++ [(⟨a0, a1, a2, a3, a4, a5, a6, ⟨a7, a8⟩, a9, a10⟩ : AllocD)] } : StoreV).nodes))) = true from HFE2.out.trans HFX.out])))
        have hU11 := hU9.e0 hx11
        have hT11 := hT9.e0 hx11
        have hA11 := hA9.e0 hx11
        have hok11 := hok9.ext0 hx11
        have hxr11 := hxr9.tr hx11
        have hV11 := hV9.e0 hx11
        clear hU9 hT9 hA9 hok9 hxr9 hV9
        have hT_w11 := hT11
        have hA_w11 := hA11
        have hV_w11 := hV11
        obtain ⟨n3, n6, n1, n2⟩ := NN.out
        have m3 := hxr11.c0 n3
        have m6 := hxr11.c0 n6
        have m1 := hxr11.c0 n1
        have m2 := hxr11.c0 n2
        have m2b : w11.cell? ⟨b, off + i * 8 + 1 + 1, none⟩ = some (.int .i64 x2) := m2
        clear n3 n6 n1 n2
        have t4 : w11.cell? ⟨T, 4, none⟩ = some (.slice (some ⟨b, off, none⟩) sV.nN sV.cN) := by rw [← HAE.out]; exact hT_w11.cell 4
        have p6 : w11.cell? ⟨w.heap.size, 6, none⟩ = some (.int .i64 a6) := hA_w11.cell 6
        have v0 : w11.cell? ⟨V, 0, none⟩ = some (.int .i64 u1) := hV_w11.cell 0
        have v1 : w11.cell? ⟨V, 1, none⟩ = some (.int .i64 u2) := hV_w11.cell 1
        go_cut [12] from 97 to 118 (fun e wx => e = .bool (decide (u1 ≤ x1) && decide (u2 ≤ x2)) ∧ Ext Nothing w11 wx)
        case first =>
         cases y1 : (decide (u1 ≤ x1)) with
         | true =>
          cases y2 : (decide (u2 ≤ x2)) with
          | true =>
           go_quiet (fail)
           go_wp2
           go_meet
           exact ⟨by rw [y1, y2]; rfl, (Ext.refl _ _).drewN _⟩
          | false =>
           go_quiet (fail)
           go_wp2
           go_meet
           exact ⟨by rw [y1, y2]; rfl, (Ext.refl _ _).drewN _⟩
         | false =>
          go_quiet (fail)
          go_wp2
          go_meet
          exact ⟨by rw [y1]; rfl, (Ext.refl _ _).drewN _⟩
        case rest =>
         obtain ⟨rfl, hdq2⟩ := hcut
         rename World => w12
         clear m3 m6 m1 m2 m2b t4 p6 v0 v1 hT_w11 hA_w11 hV_w11
         have hU12 := hU11.e0 hdq2
         have hT12 := hT11.e0 hdq2
         have hA12 := hA11.e0 hdq2
         have hok12 := hok11.ext0 hdq2
         have hxr12 := hxr11.tr hdq2
         have hV12 := hV11.e0 hdq2
         generalize hrx : (decide (u1 ≤ x1) && decide (u2 ≤ x2)) = rx
         have HRX := Lib.hid hrx
         clear hrx
         cases rx with
         | true =>
          go_wp2_with (first | go_skip | go_guarded | ((with_reducible refine isW ?_); refine wpList_load_blk rfl 30 _ rfl STStore U rfl ({ s' with AA := A2, nA := s'.nA + 1, cA := c2, allocs := s'.allocs ++ [(⟨a0, a1, a2, a3, a4, a5, a6, ⟨a7, a8⟩, a9, a10⟩ : AllocD)] } : StoreV).arr (show Blk _ _ 30 _ from hU12) rfl ?_) | (go_at_call 7; (with_reducible refine (room_any ({ s' with AA := A2, nA := s'.nA + 1, cA := c2, allocs := s'.allocs ++ [(⟨a0, a1, a2, a3, a4, a5, a6, ⟨a7, a8⟩, a9, a10⟩ : AllocD)] } : StoreV) w12 hok12).mono ?_); rintro e w13 ⟨rfl, hx13⟩; (rw [show (!(({ s' with AA := A2, nA := s'.nA + 1, cA := c2, allocs := s'.allocs ++ [(⟨a0, a1, a2, a3, a4, a5, a6, ⟨a7, a8⟩, a9, a10⟩ : AllocD)] } : StoreV).nodes.any (roomB ({ s' with AA := A2, nA := s'.nA + 1, cA := c2, allocs := s'.allocs ++ [(⟨a0, a1, a2, a3, a4, a5, a6, ⟨a7, a8⟩, a9, a10⟩ : AllocD)] } : StoreV).allocs))) = true from HRO2.out.trans HRX.out])) | (go_at_call 10; (with_reducible refine (lives21 _).mono ?_); rintro e w14 ⟨rfl, hx14⟩))
          go_ret
          exact ⟨rfl, ((hx.tr hxr12).tr hx13).tr hx14⟩
         | false =>
          go_wp2_with (first | go_skip | go_guarded | ((with_reducible refine isW ?_); refine wpList_load_blk rfl 30 _ rfl STStore U rfl ({ s' with AA := A2, nA := s'.nA + 1, cA := c2, allocs := s'.allocs ++ [(⟨a0, a1, a2, a3, a4, a5, a6, ⟨a7, a8⟩, a9, a10⟩ : AllocD)] } : StoreV).arr (show Blk _ _ 30 _ from hU12) rfl ?_) | (go_at_call 7; (with_reducible refine (room_any ({ s' with AA := A2, nA := s'.nA + 1, cA := c2, allocs := s'.allocs ++ [(⟨a0, a1, a2, a3, a4, a5, a6, ⟨a7, a8⟩, a9, a10⟩ : AllocD)] } : StoreV) w12 hok12).mono ?_); rintro e w13 ⟨rfl, hx13⟩; (rw [show (!(({ s' with AA := A2, nA := s'.nA + 1, cA := c2, allocs := s'.allocs ++ [(⟨a0, a1, a2, a3, a4, a5, a6, ⟨a7, a8⟩, a9, a10⟩ : AllocD)] } : StoreV).nodes.any (roomB ({ s' with AA := A2, nA := s'.nA + 1, cA := c2, allocs := s'.allocs ++ [(⟨a0, a1, a2, a3, a4, a5, a6, ⟨a7, a8⟩, a9, a10⟩ : AllocD)] } : StoreV).allocs))) = false from HRO2.out.trans HRX.out])) | (go_at_call 10; (with_reducible refine (lives21 _).mono ?_); rintro e w14 ⟨rfl, hx14⟩))
          go_ret
          exact ⟨rfl, ((hx.tr hxr12).tr hx13).tr hx14⟩
       | false =>
        go_upto_region 20 with (first | go_skip | go_guarded | ((with_reducible refine isW ?_); refine wpList_load_blk rfl 30 _ rfl STStore U rfl ({ s' with AA := A2, nA := s'.nA + 1, cA := c2, allocs := s'.allocs ++ [(⟨a0, a1, a2, a3, a4, a5, a6, ⟨a7, a8⟩, a9, a10⟩ : AllocD)] } : StoreV).arr (show Blk _ _ 30 _ from hU9) rfl ?_) | (go_at_call 9; (with_reducible refine (fenced_any ({ s' with AA := A2, nA := s'.nA + 1, cA := c2, allocs := s'.allocs ++ [(⟨a0, a1, a2, a3, a4, a5, a6, ⟨a7, a8⟩, a9, a10⟩ : AllocD)] } : StoreV) w9 hok9).mono ?_); rintro e w11 ⟨rfl, hx11⟩; (rw [show (!(({ s' with AA := A2, nA := s'.nA + 1, cA := c2, allocs := s'.allocs ++ [(⟨a0, a1, a2, a3, a4, a5, a6, ⟨a7, a8⟩, a9, a10⟩ : AllocD)] } : StoreV).allocs.any (fencedB ({ s' with AA := A2, nA := s'.nA + 1, cA := c2, allocs := s'.allocs ++ [(⟨a0, a1, a2, a3, a4, a5, a6, ⟨a7, a8⟩, a9, a10⟩ : AllocD)] } : StoreV).nodes))) = false from HFE2.out.trans HFX.out])))
        have hU11 := hU9.e0 hx11
        have hT11 := hT9.e0 hx11
        have hA11 := hA9.e0 hx11
        have hok11 := hok9.ext0 hx11
        have hxr11 := hxr9.tr hx11
        have hV11 := hV9.e0 hx11
        clear hU9 hT9 hA9 hok9 hxr9 hV9
        have hT_w11 := hT11
        have hA_w11 := hA11
        have hV_w11 := hV11
        obtain ⟨n3, n6, n1, n2⟩ := NN.out
        have m3 := hxr11.c0 n3
        have m6 := hxr11.c0 n6
        have m1 := hxr11.c0 n1
        have m2 := hxr11.c0 n2
        have m2b : w11.cell? ⟨b, off + i * 8 + 1 + 1, none⟩ = some (.int .i64 x2) := m2
        clear n3 n6 n1 n2
        have t4 : w11.cell? ⟨T, 4, none⟩ = some (.slice (some ⟨b, off, none⟩) sV.nN sV.cN) := by rw [← HAE.out]; exact hT_w11.cell 4
        have p6 : w11.cell? ⟨w.heap.size, 6, none⟩ = some (.int .i64 a6) := hA_w11.cell 6
        have v0 : w11.cell? ⟨V, 0, none⟩ = some (.int .i64 u1) := hV_w11.cell 0
        have v1 : w11.cell? ⟨V, 1, none⟩ = some (.int .i64 u2) := hV_w11.cell 1
        go_cut [12] from 97 to 118 (fun e wx => e = .bool (decide (u1 ≤ x1) && decide (u2 ≤ x2)) ∧ Ext Nothing w11 wx)
        case first =>
         cases y1 : (decide (u1 ≤ x1)) with
         | true =>
          cases y2 : (decide (u2 ≤ x2)) with
          | true =>
           go_quiet (fail)
           go_wp2
           go_meet
           exact ⟨by rw [y1, y2]; rfl, (Ext.refl _ _).drewN _⟩
          | false =>
           go_quiet (fail)
           go_wp2
           go_meet
           exact ⟨by rw [y1, y2]; rfl, (Ext.refl _ _).drewN _⟩
         | false =>
          go_quiet (fail)
          go_wp2
          go_meet
          exact ⟨by rw [y1]; rfl, (Ext.refl _ _).drewN _⟩
        case rest =>
         obtain ⟨rfl, hdq2⟩ := hcut
         rename World => w12
         clear m3 m6 m1 m2 m2b t4 p6 v0 v1 hT_w11 hA_w11 hV_w11
         have hU12 := hU11.e0 hdq2
         have hT12 := hT11.e0 hdq2
         have hA12 := hA11.e0 hdq2
         have hok12 := hok11.ext0 hdq2
         have hxr12 := hxr11.tr hdq2
         have hV12 := hV11.e0 hdq2
         generalize hrx : (decide (u1 ≤ x1) && decide (u2 ≤ x2)) = rx
         have HRX := Lib.hid hrx
         clear hrx
         cases rx with
         | true =>
          go_wp2_with (first | go_skip | go_guarded | ((with_reducible refine isW ?_); refine wpList_load_blk rfl 30 _ rfl STStore U rfl ({ s' with AA := A2, nA := s'.nA + 1, cA := c2, allocs := s'.allocs ++ [(⟨a0, a1, a2, a3, a4, a5, a6, ⟨a7, a8⟩, a9, a10⟩ : AllocD)] } : StoreV).arr (show Blk _ _ 30 _ from hU12) rfl ?_) | (go_at_call 7; (with_reducible refine (room_any ({ s' with AA := A2, nA := s'.nA + 1, cA := c2, allocs := s'.allocs ++ [(⟨a0, a1, a2, a3, a4, a5, a6, ⟨a7, a8⟩, a9, a10⟩ : AllocD)] } : StoreV) w12 hok12).mono ?_); rintro e w13 ⟨rfl, hx13⟩; (rw [show (!(({ s' with AA := A2, nA := s'.nA + 1, cA := c2, allocs := s'.allocs ++ [(⟨a0, a1, a2, a3, a4, a5, a6, ⟨a7, a8⟩, a9, a10⟩ : AllocD)] } : StoreV).nodes.any (roomB ({ s' with AA := A2, nA := s'.nA + 1, cA := c2, allocs := s'.allocs ++ [(⟨a0, a1, a2, a3, a4, a5, a6, ⟨a7, a8⟩, a9, a10⟩ : AllocD)] } : StoreV).allocs))) = true from HRO2.out.trans HRX.out])) | (go_at_call 10; (with_reducible refine (lives21 _).mono ?_); rintro e w14 ⟨rfl, hx14⟩))
          go_ret
          exact ⟨rfl, ((hx.tr hxr12).tr hx13).tr hx14⟩
         | false =>
          go_wp2_with (first | go_skip | go_guarded | ((with_reducible refine isW ?_); refine wpList_load_blk rfl 30 _ rfl STStore U rfl ({ s' with AA := A2, nA := s'.nA + 1, cA := c2, allocs := s'.allocs ++ [(⟨a0, a1, a2, a3, a4, a5, a6, ⟨a7, a8⟩, a9, a10⟩ : AllocD)] } : StoreV).arr (show Blk _ _ 30 _ from hU12) rfl ?_) | (go_at_call 7; (with_reducible refine (room_any ({ s' with AA := A2, nA := s'.nA + 1, cA := c2, allocs := s'.allocs ++ [(⟨a0, a1, a2, a3, a4, a5, a6, ⟨a7, a8⟩, a9, a10⟩ : AllocD)] } : StoreV) w12 hok12).mono ?_); rintro e w13 ⟨rfl, hx13⟩; (rw [show (!(({ s' with AA := A2, nA := s'.nA + 1, cA := c2, allocs := s'.allocs ++ [(⟨a0, a1, a2, a3, a4, a5, a6, ⟨a7, a8⟩, a9, a10⟩ : AllocD)] } : StoreV).nodes.any (roomB ({ s' with AA := A2, nA := s'.nA + 1, cA := c2, allocs := s'.allocs ++ [(⟨a0, a1, a2, a3, a4, a5, a6, ⟨a7, a8⟩, a9, a10⟩ : AllocD)] } : StoreV).allocs))) = false from HRO2.out.trans HRX.out])) | (go_at_call 10; (with_reducible refine (lives21 _).mono ?_); rintro e w14 ⟨rfl, hx14⟩))
          go_ret
          exact ⟨rfl, ((hx.tr hxr12).tr hx13).tr hx14⟩
theorem parts_law (LA : Option Addr) (ln lc : Nat) (l : List CmdV) (x : AllocD) (w : World) (hl : Sl w 27 LA ln (l.map CmdV.cells)) (hr : ∀ c ∈ l, c.Read w) (hn : ln ≤ 1048576) (ha : x.ok) :
  Calls Tryz.prog 4 #[.slice LA ln lc, .agg x.cells.toArray] w fun e w' => e = .returned (.bool true) ∧ Ext Nothing w w' :=
 parts_any LA ln lc l x.id x.job x.ver x.group x.index x.node x.epoch x.ask.cpu x.ask.mem x.stop x.state w hl hr hn ha
end Go.Proofs.YtlpfcmnnmdhaoaaGreat
