/- Parts of the proof: Holds -/
import Derived.Test.YtlpfcmnnmdhaoaaGreatQ28
import Derived.Test.YtlpfcmnnmdhaoaaGreatQ17
import Derived.Test.YtlpfcmnnmdhaoaaGreatQ12
namespace Go.Proofs.YtlpfcmnnmdhaoaaGreat
set_option linter.unusedVariables false
set_option linter.unusedSimpArgs false
set_option linter.unusedSectionVars false
open Go.RowKit
def newV : StoreV := ⟨0, 1, none, 0, 0, [], none, 0, 0, [], none, 0, 0, [], none, 0, 0, [], none, 0, 0, [], none, 0, 0, [], none, 0, 0, []⟩
theorem newV_own (base : Nat) (w : World) : OwnS base w newV :=
 ⟨⟨World.ownsRow_nil _ _ _ _, by simp [newV]⟩, rfl, ⟨World.ownsRow_nil _ _ _ _, by simp [newV]⟩, rfl, World.ownsRow_nil _ _ _ _, rfl, World.ownsRow_nil _ _ _ _, rfl, World.ownsRow_nil _ _ _ _, rfl, World.ownsRow_nil _ _ _ _, rfl, World.ownsRow_nil _ _ _ _, rfl, by simp [newV], by simp [newV, Value.ownBlock]⟩
theorem good_lens {t : Nat} {s : StoreV} (h : Fsm.Good t s.data) (ht : t ≤ 1048576) : s.jobs.length ≤ t ∧ s.stable.length ≤ t ∧ s.nodes.length ≤ t ∧ s.allocs.length ≤ 64 ∧ s.evals.length ≤ t ∧ s.deploys.length ≤ t ∧ s.seen.length ≤ t := by
 have h1 : (s.jobs.map (·.1)).length ≤ t := h.lj
 have h2 : (s.stable.map (·.1)).length ≤ (s.jobs.map (·.1)).length := Fsm.stable_len h.sts h.stt
 have h3 : s.evals.length = (s.jobs.map (·.1)).length := by have := congrArg List.length h.evs.keys; simpa [StoreV.data] using this
 have h4 : (s.seen.map (·.1)).length ≤ t := h.lx
 have h5 := h.ln
 have h6 := h.ld
 have h7 := h.num.len
 rw [List.length_map] at h1 h2 h3 h4
 rw [List.length_map] at h2
 exact ⟨h1, by omega, h5, h7, by omega, h6, h4⟩
theorem own_good {base t : Nat} {w : World} {s : StoreV} (h : OwnS base w s) (hg : Fsm.Good t s.data) (ht : t ≤ 1048576) : s.Ok w := by
 obtain ⟨a, b, c, d, e, f, g⟩ := good_lens hg ht
 exact h.ok hg.o64 (by omega) (by omega) (by omega) (by omega) (by omega) (by omega) (by omega)
theorem CmdV.Read.cmdI {w w' : World} {c : CmdV} (h : c.Read w) (hx : Ext Nothing w w') : CmdI w'.heap.size w' c := by
 have lt : ∀ {sz n : Nat} {A : Option Addr} {xs : List (List Value)}, Sl w' sz A n xs → 0 < sz → ∀ b, A.map (·.block) = some b → xs ≠ [] → b < w'.heap.size := fun hs h0 b hb hne => by
  rcases Nat.lt_or_ge b w'.heap.size with h1 | h1
  ·exact h1
  ·exact absurd (hs.old h0 hb h1) hne
 have hg := h.g.ext0 hx
 have hr := h.r.ext0 hx
 have hs := h.s.ext0 hx
 have hp := h.p.ext0 hx
 exact ⟨hg, h.gl, fun b e ne => lt hg (by decide) b e (by simpa using ne), hr, h.rl, fun b e ne => lt hr (by decide) b e (by simpa using ne), hs, h.sl, fun b e ne => lt hs (by decide) b e (by simpa using ne), hp, h.pl, fun b e ne => lt hp (by decide) b e (by simpa using ne), h.o25, h.o26⟩
theorem CmdV.Read.placesLe {w : World} {c : CmdV} (h : c.Read w) : c.d.plan.places.length ≤ 1048576 := by
 have h1 := h.p.len
 have h2 := h.pl
 show c.places.length ≤ _
 omega
theorem apply_good {t : Nat} {w : World} {s : StoreV} {c : CmdV} {ix term : Int} (hs : s.Ok w) (hg : Fsm.Good t s.data) (hc : CmdI w.heap.size w c) (ht : t ≤ 1048575) :
  Calls Tryz.prog 6 #[.agg s.arr, .agg (c.ent ix term)] w fun e w' => ∃ s' r rv, e = .returned (.tuple #[.agg s'.arr, .agg #[.int .i64 r.code, .int .i64 r.value, rv]]) ∧ OwnS w.heap.size w' s' ∧ Fsm.apply s.data ix c.d = (s'.data, r) ∧ ResI w.heap.size w' rv r.allocs ∧ Ext Nothing w w' := by
 obtain ⟨a, b, c', d, e, f, g⟩ := good_lens hg (by omega)
 exact refApply s c ix term w hs (fun y hy => (hg.o64.x y.1 (List.mem_map_of_mem hy)).2) hc (by omega) (by omega) (by omega) (by omega) (by omega) (by omega) (by omega)
set_option maxRecDepth 20000 in
set_option maxHeartbeats 16000000 in
theorem holds_any (LA : Option Addr) (ln lc : Nat) (l : List CmdV) (w : World) (hl : Sl w 27 LA ln (l.map CmdV.cells)) (hr : ∀ c ∈ l, c.Read w) (hn : ln ≤ 1048576) :
  Calls Tryz.prog 3 #[.slice LA ln lc] w fun e w' => e = .returned (.bool true) ∧ Ext Nothing w w' := by
 go_enter Tryz.func3, Tryz.ntmps3
 have hln := Lib.hid hl.len
 go_upto_region 2 with (first | go_skip | go_guarded | (go_at_call 5; (with_reducible refine (refNew w).mono ?_); rintro e w1 ⟨rfl, hx1⟩))
 have hxT : Ext Nothing w1 (w1.alloc (.cells #[.int .i64 0, .int .i64 1, .slice none 0 0, .slice none 0 0, .slice none 0 0, .slice none 0 0, .slice none 0 0, .slice none 0 0, .slice none 0 0] 30)) := Ext.auto
 have hT0 : Blk (w1.alloc (.cells #[.int .i64 0, .int .i64 1, .slice none 0 0, .slice none 0 0, .slice none 0 0, .slice none 0 0, .slice none 0 0, .slice none 0 0, .slice none 0 0] 30)) w1.heap.size 30 newV.arr := Blk.new _ _ _
 have hzT : w.heap.size ≤ w1.heap.size := hx1.size
 have hx0 := hx1.tr hxT
 generalize hTT : w1.heap.size = T at hT0 hzT ⊢
 generalize (w1.alloc (.cells #[.int .i64 0, .int .i64 1, .slice none 0 0, .slice none 0 0, .slice none 0 0, .slice none 0 0, .slice none 0 0, .slice none 0 0, .slice none 0 0] 30)) = w2 at hT0 hx0 ⊢
 clear hxT hx1 hTT
 have hO0 : OwnS w.heap.size w2 newV := newV_own _ _
 go_wp2
 go_loopw [4] (fun ki wr => ∃ t : Nat, t ≤ ln ∧ ki = .int .i64 t ∧ ∃ sV : StoreV, OwnS w.heap.size wr sV ∧ Fsm.Good t sV.data ∧ Blk wr T 30 sV.arr ∧ Ext Nothing w wr) (fun ki _ => ln - (intOf ki).toNat)
 case atStart => exact ⟨0, Nat.zero_le _, rfl, newV, hO0, Fsm.good_new, hT0, hx0⟩
 case round =>
  obtain ⟨t, ht, rfl, sV, hO, hG, hT, hx⟩ := hrel
  clear hO0 hT0 hx0
  by_cases hlt : t < ln
  ·obtain ⟨hjn, b, off, hLe, hce⟩ := hl.get hx hlt
   have hrd := hr _ (List.getElem_mem hjn)
   generalize l[t] = c at hce hrd
   subst hLe
   have hk0 : (0 : Int) ≤ (t : Int) := by omega
   have hk1 : (t : Int) < ln := by omega
   have HW := Lib.hid (show wrap64 ((t : Int) + 1) = (t : Int) + 1 by unfold wrap64; omega)
   have HT := Lib.hid hlt
   have HG := Lib.hid hG
   have hok := own_good hO hG (by omega)
   have hbw : b < w.heap.size := by obtain ⟨q, hq⟩ := hl.blk (show 0 < ln by omega); exact hq
   have HCE := Lib.hid (show ∀ j u, c.arr.toList[j]? = some u → wr.cell? ⟨b, off + t * 27 + j, none⟩ = some u from hce)
   clear hce
   go_upto_region 5 with (first | go_skip | go_guarded)
   refine zH (S := fun q => q = T) (by kernel_rfl) (fun Wd hd hd0 => ?_)
   refine zT 1 (.int .i64 (t : Int)) rfl (by kernel_rfl) (by rfl) hd (fun _ _ _ h => h) ?_ ?_
   ·intro W' hS'
    go_simp
   refine zT 2 (.int .i64 (wrap64 ((t : Int) + 1))) rfl (by kernel_rfl) (by rfl) hd (fun _ _ _ h => h) ?_ ?_
   ·intro W' hS'
    go_simp
    rw [IntKind.wrap_i64]
    have := HT.out
    unfold wrap64
    omega
   refine zT 3 (.slice (some ⟨b, off, none⟩) ln lc) rfl (by kernel_rfl) (by rfl) hd (fun _ _ _ h => h) ?_ ?_
   ·intro W' hS'
    go_simp
   refine zT 4 (.int .i64 (t : Int)) rfl (by kernel_rfl) (by rfl) hd (fun _ _ _ h => h) ?_ ?_
   ·intro W' hS'
    go_simp
   refine zT 5 (.pointer (some ⟨b, off + t * 27, none⟩)) rfl (by kernel_rfl) (by rfl) hd (fun _ _ _ h => h) ?_ ?_
   ·intro W' hS'
    go_simp
   refine zT 6 (.agg c.arr) rfl (by kernel_rfl) (by rfl) hd (fun _ _ _ h => h) ?_ ?_
   ·intro W' hS'
    exact run_load_struct (sz := 27) (b := b) (off := off + t * 27) rfl STCmd (by go_simp) (fun j u hu => hS'.cell (HCE.out j u hu) (fun e => absurd (show b = T from e) (by omega))) rfl
   refine zT 7 (.agg (c.ent (wrap64 ((t : Int) + 1)) 1)) rfl (by kernel_rfl) (by rfl) hd (fun _ _ _ h => h) ?_ ?_
   ·intro W' hS'
    go_simp
   (try simp only [Act.put, zA, zB, zC, zD, zE, zF])
   have hOk := hok.ext0 hd0
   have hTq := hT.e0 hd0
   have hxq := hx.tr hd0
   have hcq := hrd.cmdI hxq
   refine zO 0 (by kernel_rfl) ?_
   refine wpOp_val (v := .agg sV.arr) (w' := Wd) rfl (by rfl) (by exact run_load_blk rfl STStore (by go_simp) hTq rfl) ⟨hd, ?_⟩
   (try simp only [Act.put, zA, zB, zC, zD, zE, zF])
   refine zO 8 (by kernel_rfl) ?_
   refine wpOp_call (f := 6) (args := #[.agg sV.arr, .agg (c.ent (wrap64 ((t : Int) + 1)) 1)]) rfl (by rfl) (by go_simp) ((apply_good hOk HG.out hcq (show t ≤ 1048575 by have := HT.out; omega) (ix := wrap64 ((t : Int) + 1)) (term := 1)).mono ?_)
   rintro e w2 ⟨s2, r2, rv, rfl, hO2, hF2, _, hx2⟩
   have hT2 := hTq.e0 hx2
   have hd2 := hd.trans hx2 (fun _ _ e => e.elim)
   have HG2 := Lib.hid (show Fsm.Good (t + 1) s2.data by have h9 := Fsm.good_step HG.out (by have := HT.out; omega) hrd.ok hrd.placesLe; rw [← HW.out, hF2] at h9; exact h9)
   clear hF2
   refine ⟨_, rfl, hd2, ?_⟩
   (try simp only [Act.put, zA, zB, zC, zD, zE, zF])
   refine zO 9 (by kernel_rfl) ?_
   refine wpOp_val (v := .tuple #[.agg s2.arr, .agg #[.int .i64 r2.code, .int .i64 r2.value, rv]]) (w' := w2) rfl (by rfl) (by go_simp) ⟨hd2, ?_⟩
   (try simp only [Act.put, zA, zB, zC, zD, zE, zF])
   refine zT 10 (.agg s2.arr) rfl (by kernel_rfl) (by rfl) hd2 (fun _ _ _ h => h) ?_ ?_
   ·intro W' hS'
    go_simp
   refine zT 11 (.agg #[.int .i64 r2.code, .int .i64 r2.value, rv]) rfl (by kernel_rfl) (by rfl) hd2 (fun _ _ _ h => h) ?_ ?_
   ·intro W' hS'
    go_simp
   (try simp only [Act.put, zA, zB, zC, zD, zE, zF])
   refine zO 12 (by kernel_rfl) ?_
   refine wpOp_store (p := T) (cs := s2.arr) rfl (by rfl) rfl (by go_simp) (by go_simp) hT2 rfl STStore rfl rfl (fun w5 hB5 hx5 => ?_)
   have hd5 := hd2.trans hx5 (fun q hq e => e)
   refine ⟨hd5, ?_⟩
   (try simp only [Act.put, zA, zB, zC, zD, zE, zF])
   refine wpAnyH_done (by kernel_rfl) ?_ _
   (try simp only [Act.put, zA, zB, zC, zD, zE, zF])
   have hO5 := (hO2.base hxq.size).keep hx5 (Apart.one hT2 (by decide))
   have hx5w : Ext Nothing w w5 := hx.trans hd5 (fun b hb e => absurd (show b = T from e) (by omega))
   have hok5 := own_good hO5 HG2.out (by have := HT.out; omega)
   have HR := Lib.hid (inv_room HG2.out.inv)
   have HS := Lib.hid (inv_slots HG2.out.inv)
   have HF := Lib.hid (inv_fenced HG2.out.inv)
   clear hd hd0 hd2 hd5 hOk hTq hxq hcq hok hT2 hx2 hO2
   go_wp2_with (first | go_skip | go_guarded | ((with_reducible refine isW ?_); refine wpList_load_blk rfl 30 _ rfl STStore T rfl s2.arr (show Blk _ _ 30 _ from by first | exact hB5 | exact hB6 | exact hB7) rfl ?_) | (go_at_call 7; (with_reducible refine (room_any s2 w5 hok5).mono ?_); rintro e w6 ⟨rfl, hx6⟩; (rw [show s2.nodes.any (roomB s2.allocs) = false from HR.out]); have hB6 := hB5.e0 hx6; have hok6 := hok5.ext0 hx6; have kB6_0 : w6.cell? ⟨T, 0, none⟩ = some (.int .i64 s2.index) := hB6.cell 0; have kB6_1 : w6.cell? ⟨T, 1, none⟩ = some (.int .i64 s2.next) := hB6.cell 1; have kB6_2 : w6.cell? ⟨T, 2, none⟩ = some (.slice s2.AJ s2.nJ s2.cJ) := hB6.cell 2; have kB6_3 : w6.cell? ⟨T, 3, none⟩ = some (.slice s2.AS s2.nS s2.cS) := hB6.cell 3; have kB6_4 : w6.cell? ⟨T, 4, none⟩ = some (.slice s2.AN s2.nN s2.cN) := hB6.cell 4; have kB6_5 : w6.cell? ⟨T, 5, none⟩ = some (.slice s2.AA s2.nA s2.cA) := hB6.cell 5; have kB6_6 : w6.cell? ⟨T, 6, none⟩ = some (.slice s2.AE s2.nE s2.cE) := hB6.cell 6; have kB6_7 : w6.cell? ⟨T, 7, none⟩ = some (.slice s2.AD s2.nD s2.cD) := hB6.cell 7; have kB6_8 : w6.cell? ⟨T, 8, none⟩ = some (.slice s2.AX s2.nX s2.cX) := hB6.cell 8) | (go_at_call 8; (with_reducible refine (slots_any s2 w6 hok6).mono ?_); rintro e w7 ⟨rfl, hx7⟩; (rw [show slotsB s2.allocs = true from HS.out]); have hB7 := hB6.e0 hx7; have hok7 := hok6.ext0 hx7; have kB7_0 : w7.cell? ⟨T, 0, none⟩ = some (.int .i64 s2.index) := hB7.cell 0; have kB7_1 : w7.cell? ⟨T, 1, none⟩ = some (.int .i64 s2.next) := hB7.cell 1; have kB7_2 : w7.cell? ⟨T, 2, none⟩ = some (.slice s2.AJ s2.nJ s2.cJ) := hB7.cell 2; have kB7_3 : w7.cell? ⟨T, 3, none⟩ = some (.slice s2.AS s2.nS s2.cS) := hB7.cell 3; have kB7_4 : w7.cell? ⟨T, 4, none⟩ = some (.slice s2.AN s2.nN s2.cN) := hB7.cell 4; have kB7_5 : w7.cell? ⟨T, 5, none⟩ = some (.slice s2.AA s2.nA s2.cA) := hB7.cell 5; have kB7_6 : w7.cell? ⟨T, 6, none⟩ = some (.slice s2.AE s2.nE s2.cE) := hB7.cell 6; have kB7_7 : w7.cell? ⟨T, 7, none⟩ = some (.slice s2.AD s2.nD s2.cD) := hB7.cell 7; have kB7_8 : w7.cell? ⟨T, 8, none⟩ = some (.slice s2.AX s2.nX s2.cX) := hB7.cell 8) | (go_at_call 9; (with_reducible refine (fenced_any s2 w7 hok7).mono ?_); rintro e w8 ⟨rfl, hx8⟩; (rw [show s2.allocs.any (fencedB s2.nodes) = false from HF.out])))
   have hx58 := (hx6.tr hx7).tr hx8
   go_roundw
   case rel => exact ⟨t + 1, HT.out, by go_num, s2, hO5.keep0 hx58, HG2.out, hB5.e0 hx58, hx5w.tr hx58⟩
   case measure => have := HT.out; simp [intOf]; omega
  ·have hnl : ¬ ((t : Int) < ln) := by omega
   go_wp2_with (first | go_skip | go_guarded | (go_at_call 10; (with_reducible refine (lives21 _).mono ?_); rintro e w9 ⟨rfl, hx9⟩))
   go_ret
   exact ⟨rfl, hx.tr hx9⟩
end Go.Proofs.YtlpfcmnnmdhaoaaGreat
