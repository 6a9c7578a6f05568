/- Parts of the proof: LookS -/
import Derived.Test.YtlpfcmnnmdhaoaaGreatQ02
import Derived.Test.YtlpfcmnnmdhaoaaGreatQ01
namespace Go.Proofs.YtlpfcmnnmdhaoaaGreat
set_option linter.unusedVariables false
set_option linter.unusedSimpArgs false
set_option linter.unusedSectionVars false
open Go.RowKit
open Go.Maps (Keyed)
def slotK (x : AllocD) : Int × Int × Int := (x.job, x.group, x.index)
abbrev encK3 (k : Int × Int × Int) : Value := .agg #[.int .i64 k.1, .int .i64 k.2.1, .int .i64 k.2.2]
theorem encK3_inj (x y : Int × Int × Int) (h : encK3 x = encK3 y) : x = y := by
 obtain ⟨a, b, c⟩ := x
 obtain ⟨a', b', c'⟩ := y
 simpa [encK3] using h
def heldL (l : List AllocD) : List (Int × Int × Int) := (l.filter (fun a => !overB a)).map slotK
def slotsB (l : List AllocD) : Bool := decide (heldL l).Nodup
theorem held_next (l : List AllocD) (t : Nat) (h : t < l.length) : heldL (l.take (t + 1)) = heldL (l.take t) ++ (if overB l[t] then [] else [slotK l[t]]) := by
 rw [heldL, List.take_add_one, List.getElem?_eq_getElem h, List.filter_append, List.map_append]
 cases hv : overB l[t] <;> simp [heldL, hv]
theorem slots_no {l : List AllocD} {t : Nat} (h : t < l.length) (hv : overB l[t] = false) (hm : slotK l[t] ∈ heldL (l.take t)) : slotsB l = false := by
 rw [slotsB, decide_eq_false_iff_not]
 intro hn
 have h1 : heldL (l.take (t + 1)) <+: heldL l := by
  conv => rhs; rw [← List.take_append_drop (t + 1) l]
  rw [heldL, heldL, List.filter_append, List.map_append]
  exact List.prefix_append _ _
 have h2 := hn.sublist h1.sublist
 rw [held_next l t h, hv] at h2
 simp only [Bool.false_eq_true, if_false] at h2
 exact (List.nodup_append.1 h2).2.2 _ hm _ (List.mem_singleton.2 rfl) rfl
theorem slots_yes {l : List AllocD} {t : Nat} (h : l.length ≤ t) (hn : (heldL (l.take t)).Nodup) : slotsB l = true := by
 rw [slotsB, decide_eq_true_eq]
 rwa [List.take_of_length_le h] at hn
theorem c_slot3 : Tryz.prog.cellsOf 72 = 3 := by kernel_rfl
theorem c_int3 : Tryz.prog.cellsOf 3 = 1 := by kernel_rfl
theorem kt_slot3 : Tryz.prog.keyType 72 = true := by kernel_rfl
theorem ULm3 : Tryz.prog.underlying 70 = some (.map 72 4) := by kernel_rfl
theorem ULslot3 : Tryz.prog.underlying 72 = some (.array 3 3) := by kernel_rfl
theorem ULint3 : Tryz.prog.underlying 3 = some (.int .i64) := by kernel_rfl
theorem keyLits_array {P : Program} {d t n e : Nat} {cs : List Value} (ht : P.underlying t = some (.array n e)) (hl : cs.length = P.cellsOf t) :
  P.keyLits (d + 1) t cs = ((List.range n).mapM fun i => P.keyLits d e ((cs.drop (i * P.cellsOf e)).take (P.cellsOf e))).map List.flatten := by
 rw [Program.keyLits.eq_def]
 simp only [ht]
 rw [if_pos hl]
theorem key_slot3 {k : Int × Int × Int} (h1 : In64 k.1) (h2 : In64 k.2.1) (h3 : In64 k.2.2) : ∃ l, keyOf Tryz.prog 72 (encK3 k) = some l := by
 obtain ⟨a, b, c⟩ := k
 obtain ⟨a1, a2⟩ := h1
 obtain ⟨b1, b2⟩ := h2
 obtain ⟨c1, c2⟩ := h3
 have ha : (Lit.int .i64 a).wf = true := WalkArith.wf_i64 (by simp only at *; omega)
 have hb : (Lit.int .i64 b).wf = true := WalkArith.wf_i64 (by simp only at *; omega)
 have hc : (Lit.int .i64 c).wf = true := WalkArith.wf_i64 (by simp only at *; omega)
 obtain ⟨n, hn⟩ : ∃ n, Tryz.prog.types.size + 1 = n + 2 := ⟨_, rfl⟩
 have hf : (Value.agg #[.int .i64 a, .int .i64 b, .int .i64 c]).formed Tryz.prog 72 = true := by simp [Value.formed, ULslot3, c_slot3]
 have hl : Tryz.prog.keyLits (n + 2) 72 [.int .i64 a, .int .i64 b, .int .i64 c] = some [.int .i64 a, .int .i64 b, .int .i64 c] := by
  rw [keyLits_array ULslot3 (by rw [c_slot3]; rfl)]
  have hr : List.range 3 = [0, 1, 2] := rfl
  rw [hr]
  simp [keyLits_int ULint3 ha, keyLits_int ULint3 hb, keyLits_int ULint3 hc, c_int3]
 simp only [keyOf, ULslot3, kt_slot3, hf, hn, Bool.and_self, if_true]
 exact ⟨_, by rw [show (Value.agg #[.int .i64 a, .int .i64 b, .int .i64 c]).cells.toList = [.int .i64 a, .int .i64 b, .int .i64 c] from rfl, hl]; rfl⟩
theorem KL3 : Keyed Tryz.prog 72 := Keyed.of_law (deep_law_laid laidOut (m := 2) (by omega) (of_decide_eq_true (by kernel_rfl)) (by kernel_rfl) (by rw [ULslot3]))
theorem zbool (w : World) : (zeroValue 4).run Tryz.prog w = .ok (.bool false) w := by
 have hi : (Tryz.prog.info? 4).bind (·.zero) = some (.bool false) := by kernel_rfl
 obtain ⟨i, h1, h2⟩ := Option.bind_eq_some_iff.1 hi
 simp [zeroValue, typeInfo, h1, h2, Result.andThen]
set_option maxRecDepth 100000 in
set_option maxHeartbeats 4000000 in
theorem slots_any (s : StoreV) (w : World) (h : s.Ok w) : Calls Tryz.prog 8 #[.agg #[.int .i64 s.index, .int .i64 s.next, .slice s.AJ s.nJ s.cJ, .slice s.AS s.nS s.cS, .slice s.AN s.nN s.cN, .slice s.AA s.nA s.cA, .slice s.AE s.nE s.cE, .slice s.AD s.nD s.cD, .slice s.AX s.nX s.cX]] w fun e w' => e = .returned (.bool (slotsB s.allocs)) ∧ Ext Nothing w w' := by
 have hx0 : Ext Nothing w ((w.alloc (.cells #[.int .i64 s.index, .int .i64 s.next, .slice s.AJ s.nJ s.cJ, .slice s.AS s.nS s.cS, .slice s.AN s.nN s.cN, .slice s.AA s.nA s.cA, .slice s.AE s.nE s.cE, .slice s.AD s.nD s.cD, .slice s.AX s.nX s.cX] 30)).alloc (.map #[] 0)) := Ext.auto
 have hm0 : MapIs Tryz.prog 72 encK3 .bool ((w.alloc (.cells #[.int .i64 s.index, .int .i64 s.next, .slice s.AJ s.nJ s.cJ, .slice s.AS s.nS s.cS, .slice s.AN s.nN s.cN, .slice s.AA s.nA s.cA, .slice s.AE s.nE s.cE, .slice s.AD s.nD s.cD, .slice s.AX s.nX s.cX] 30)).alloc (.map #[] 0)) (w.heap.size + 1) ([] : List ((Int × Int × Int) × Bool)) := by
  have h0 : MapIs Tryz.prog 72 encK3 .bool _ _ ([] : List ((Int × Int × Int) × Bool)) := MapIs.new (w.alloc (.cells #[.int .i64 s.index, .int .i64 s.next, .slice s.AJ s.nJ s.cJ, .slice s.AS s.nS s.cS, .slice s.AN s.nN s.cN, .slice s.AA s.nA s.cA, .slice s.AE s.nE s.cE, .slice s.AD s.nD s.cD, .slice s.AX s.nX s.cX] 30))
  rwa [show (w.alloc (.cells #[.int .i64 s.index, .int .i64 s.next, .slice s.AJ s.nJ s.cJ, .slice s.AS s.nS s.cS, .slice s.AN s.nN s.cN, .slice s.AA s.nA s.cA, .slice s.AE s.nE s.cE, .slice s.AD s.nD s.cD, .slice s.AX s.nX s.cX] 30)).heap.size = w.heap.size + 1 by simp] at h0
 have hmA := h.mA
 have hlA := Lib.hid h.sA.len
 have hmm := @run_makeMap Tryz.prog
 go_enter Tryz.func8, Tryz.ntmps8
 go_wp2
 generalize ((w.alloc (.cells #[.int .i64 s.index, .int .i64 s.next, .slice s.AJ s.nJ s.cJ, .slice s.AS s.nS s.cS, .slice s.AN s.nN s.cN, .slice s.AA s.nA s.cA, .slice s.AE s.nE s.cE, .slice s.AD s.nD s.cD, .slice s.AX s.nX s.cX] 30)).alloc (.map #[] 0)) = W at hx0 hm0 ⊢
 go_loopw [11] (fun i wr => ∃ t : Nat, t ≤ s.nA ∧ i = .int .i64 t ∧ Ext Nothing w wr ∧ (heldL (s.allocs.take t)).Nodup ∧ ∃ L : List ((Int × Int × Int) × Bool), MapIs Tryz.prog 72 encK3 .bool wr (w.heap.size + 1) L ∧ ∀ k, (aget k L).getD false = decide (k ∈ heldL (s.allocs.take t))) (fun i _ => s.nA - (intOf i).toNat)
 case atStart => exact ⟨0, Nat.zero_le _, rfl, hx0, by simp [heldL], [], hm0, by simp [heldL, aget]⟩
 case round =>
  clear hx0 hm0
  obtain ⟨t, ht, rfl, hx, hnd, L, hM, hL⟩ := hrel
  by_cases hlt : t < s.nA
  ·obtain ⟨hjn, b, off, hAe, hce⟩ := h.sA.get hx hlt
   have hxo := h.kA _ (List.getElem_mem hjn)
   have hnx := held_next s.allocs t hjn
   have hno := slots_no hjn
   generalize s.allocs[t] = x at hce hxo hnx hno
   have HNX := Lib.hid hnx
   clear hnx
   have hkk : ∃ kl, keyOf Tryz.prog 72 (encK3 (slotK x)) = some kl := key_slot3 hxo.2.1 hxo.2.2.2.1 hxo.2.2.2.2.1
   obtain ⟨kl, hkl⟩ := hkk
   have HA := Lib.hid hAe
   rw [hAe]
   clear hAe
   have hk0 : (0 : Int) ≤ (t : Int) := by omega
   have hk1 : (t : Int) < s.nA := by omega
   have hcf : ∀ q v, (#[.int .i64 x.id, .int .i64 x.job, .int .i64 x.ver, .int .i64 x.group, .int .i64 x.index, .int .i64 x.node, .int .i64 x.epoch, .int .i64 x.ask.cpu, .int .i64 x.ask.mem, .bool x.stop, .int .i64 x.state] : Array Value).toList[q]? = some v → wr.cell? ⟨b, off + t * 11 + q, none⟩ = some v := hce
   have hbx : Blk ((wr.alloc (.cells #[.int .i64 x.id, .int .i64 x.job, .int .i64 x.ver, .int .i64 x.group, .int .i64 x.index, .int .i64 x.node, .int .i64 x.epoch, .int .i64 x.ask.cpu, .int .i64 x.ask.mem, .bool x.stop, .int .i64 x.state] 58)).alloc (.cells #[.int .i64 x.job, .int .i64 x.group, .int .i64 x.index] 72)) wr.heap.size 58 #[.int .i64 x.id, .int .i64 x.job, .int .i64 x.ver, .int .i64 x.group, .int .i64 x.index, .int .i64 x.node, .int .i64 x.epoch, .int .i64 x.ask.cpu, .int .i64 x.ask.mem, .bool x.stop, .int .i64 x.state] := (Blk.new wr _ _).ext (S := Nothing) (Ext.auto) (fun e => e)
   have hbk : Blk ((wr.alloc (.cells #[.int .i64 x.id, .int .i64 x.job, .int .i64 x.ver, .int .i64 x.group, .int .i64 x.index, .int .i64 x.node, .int .i64 x.epoch, .int .i64 x.ask.cpu, .int .i64 x.ask.mem, .bool x.stop, .int .i64 x.state] 58)).alloc (.cells #[.int .i64 x.job, .int .i64 x.group, .int .i64 x.index] 72)) (wr.heap.size + 1) 72 #[.int .i64 x.job, .int .i64 x.group, .int .i64 x.index] := Blk.new' _ _ _ (by simp)
   have hxk : Ext Nothing wr ((wr.alloc (.cells #[.int .i64 x.id, .int .i64 x.job, .int .i64 x.ver, .int .i64 x.group, .int .i64 x.index, .int .i64 x.node, .int .i64 x.epoch, .int .i64 x.ask.cpu, .int .i64 x.ask.mem, .bool x.stop, .int .i64 x.state] 58)).alloc (.cells #[.int .i64 x.job, .int .i64 x.group, .int .i64 x.index] 72)) := Ext.auto
   have hmk := hM.ext hxk (fun e => e)
   have hwx := hx.tr hxk
   cases hv : overB x with
   | true =>
    have HV := Lib.hid (show decide (3 ≤ x.state) = true from hv)
    have HH := Lib.hid (show heldL (s.allocs.take (t + 1)) = heldL (s.allocs.take t) by rw [HNX.out, hv]; simp)
    clear hv hno
    go_wp2_with (first | (refine wpList_load_at rfl 58 _ rfl STAlloc b (off + t * 11) rfl #[.int .i64 x.id, .int .i64 x.job, .int .i64 x.ver, .int .i64 x.group, .int .i64 x.index, .int .i64 x.node, .int .i64 x.epoch, .int .i64 x.ask.cpu, .int .i64 x.ask.mem, .bool x.stop, .int .i64 x.state] hcf rfl ?_) | (refine wpList_load_blk rfl 58 _ rfl STAlloc wr.heap.size rfl #[.int .i64 x.id, .int .i64 x.job, .int .i64 x.ver, .int .i64 x.group, .int .i64 x.index, .int .i64 x.node, .int .i64 x.epoch, .int .i64 x.ask.cpu, .int .i64 x.ask.mem, .bool x.stop, .int .i64 x.state] hbx rfl ?_) | (go_at_call 20; refine (over_any #[.int .i64 x.id, .int .i64 x.job, .int .i64 x.ver, .int .i64 x.group, .int .i64 x.index, .int .i64 x.node, .int .i64 x.epoch, .int .i64 x.ask.cpu, .int .i64 x.ask.mem, .bool x.stop, .int .i64 x.state] x.state _ rfl rfl).mono ?_; rintro e w5 ⟨rfl, hx5⟩; rw [HV.out]))
    go_roundw
    case rel => exact ⟨t + 1, by omega, by go_num, hwx.tr hx5, by rw [HH.out]; exact hnd, L, hmk.ext hx5 (fun e => e), by rw [HH.out]; exact hL⟩
    case measure => simp [intOf]; omega
   | false =>
    have HV := Lib.hid (show decide (3 ≤ x.state) = false from hv)
    have HH := Lib.hid (show heldL (s.allocs.take (t + 1)) = heldL (s.allocs.take t) ++ [slotK x] by rw [HNX.out, hv]; simp)
    have HNO := Lib.hid (hno hv)
    clear hv hno
    have hLk := hL (slotK x)
    cases hin : decide (slotK x ∈ heldL (s.allocs.take t)) with
    | true =>
     have HR := Lib.hid (HNO.out (of_decide_eq_true hin))
     have hg : (aget (slotK x) L).elim (Value.bool false) .bool = .bool true := by
      rw [hin] at hLk
      cases hag : aget (slotK x) L with
      | none => rw [hag] at hLk; simp at hLk
      | some u => rw [hag] at hLk; simp at hLk; simp [hLk]
     have HG := Lib.hid hg
     clear hg hLk hin
     go_wp2_with (first | (refine wpList_load_at rfl 58 _ rfl STAlloc b (off + t * 11) rfl #[.int .i64 x.id, .int .i64 x.job, .int .i64 x.ver, .int .i64 x.group, .int .i64 x.index, .int .i64 x.node, .int .i64 x.epoch, .int .i64 x.ask.cpu, .int .i64 x.ask.mem, .bool x.stop, .int .i64 x.state] hcf rfl ?_) | (refine wpList_load_blk rfl 58 _ rfl STAlloc wr.heap.size rfl #[.int .i64 x.id, .int .i64 x.job, .int .i64 x.ver, .int .i64 x.group, .int .i64 x.index, .int .i64 x.node, .int .i64 x.epoch, .int .i64 x.ask.cpu, .int .i64 x.ask.mem, .bool x.stop, .int .i64 x.state] hbx rfl ?_) | (go_at_call 20; refine (over_any #[.int .i64 x.id, .int .i64 x.job, .int .i64 x.ver, .int .i64 x.group, .int .i64 x.index, .int .i64 x.node, .int .i64 x.epoch, .int .i64 x.ask.cpu, .int .i64 x.ask.mem, .bool x.stop, .int .i64 x.state] x.state _ rfl rfl).mono ?_; rintro e w5 ⟨rfl, hx5⟩; rw [HV.out]; have hm5 := hmk.ext hx5 (fun e => e); have k0 : w5.cell? ⟨wr.heap.size + 1, 0, none⟩ = some (.int .i64 x.job) := (hbk.ext hx5 (fun e => e)).cell 0; have k1 : w5.cell? ⟨wr.heap.size + 1, 1, none⟩ = some (.int .i64 x.group) := (hbk.ext hx5 (fun e => e)).cell 1; have k2 : w5.cell? ⟨wr.heap.size + 1, 2, none⟩ = some (.int .i64 x.index) := (hbk.ext hx5 (fun e => e)).cell 2) | (refine wpList_look rfl _ _ 70 4 rfl KL3 encK3_inj ULm3 (zbool _) hm5 rfl (slotK x) rfl hkl ?_; rw [HG.out]))
     go_ret
     exact ⟨by rw [HR.out]; rfl, hwx.tr hx5⟩
    | false =>
     have HI := Lib.hid (of_decide_eq_false hin)
     have hg : (aget (slotK x) L).elim (Value.bool false) .bool = .bool false := by
      rw [hin] at hLk
      cases hag : aget (slotK x) L with
      | none => rfl
      | some u => rw [hag] at hLk; simp at hLk; simp [hLk]
     have HG := Lib.hid hg
     clear hg hLk hin
     go_wp2_with (first | (refine wpList_load_at rfl 58 _ rfl STAlloc b (off + t * 11) rfl #[.int .i64 x.id, .int .i64 x.job, .int .i64 x.ver, .int .i64 x.group, .int .i64 x.index, .int .i64 x.node, .int .i64 x.epoch, .int .i64 x.ask.cpu, .int .i64 x.ask.mem, .bool x.stop, .int .i64 x.state] hcf rfl ?_) | (refine wpList_load_blk rfl 58 _ rfl STAlloc wr.heap.size rfl #[.int .i64 x.id, .int .i64 x.job, .int .i64 x.ver, .int .i64 x.group, .int .i64 x.index, .int .i64 x.node, .int .i64 x.epoch, .int .i64 x.ask.cpu, .int .i64 x.ask.mem, .bool x.stop, .int .i64 x.state] hbx rfl ?_) | (go_at_call 20; refine (over_any #[.int .i64 x.id, .int .i64 x.job, .int .i64 x.ver, .int .i64 x.group, .int .i64 x.index, .int .i64 x.node, .int .i64 x.epoch, .int .i64 x.ask.cpu, .int .i64 x.ask.mem, .bool x.stop, .int .i64 x.state] x.state _ rfl rfl).mono ?_; rintro e w5 ⟨rfl, hx5⟩; rw [HV.out]; have hm5 := hmk.ext hx5 (fun e => e); have k0 : w5.cell? ⟨wr.heap.size + 1, 0, none⟩ = some (.int .i64 x.job) := (hbk.ext hx5 (fun e => e)).cell 0; have k1 : w5.cell? ⟨wr.heap.size + 1, 1, none⟩ = some (.int .i64 x.group) := (hbk.ext hx5 (fun e => e)).cell 1; have k2 : w5.cell? ⟨wr.heap.size + 1, 2, none⟩ = some (.int .i64 x.index) := (hbk.ext hx5 (fun e => e)).cell 2) | (refine wpList_look rfl _ _ 70 4 rfl KL3 encK3_inj ULm3 (zbool _) hm5 rfl (slotK x) rfl hkl ?_; rw [HG.out]) | (refine wpList_put _ rfl _ _ _ 70 4 rfl KL3 encK3_inj ULm3 hm5 rfl (slotK x) rfl true rfl hkl ?_; intro w9 hM9 hg9))
     go_roundw
     case rel =>
      refine ⟨t + 1, by omega, by go_num, (hwx.tr hx5).grown hg9 (fun g e => .inl (by cases e; omega)), ?_, aput (slotK x) true L, hM9, ?_⟩
      ·rw [HH.out]
       exact List.nodup_append.2 ⟨hnd, by simp, fun a ha b hb e => HI.out (by rw [List.mem_singleton] at hb; rw [← hb, ← e]; exact ha)⟩
      ·intro k
       rw [HH.out]
       by_cases hk : k = slotK x
       ·subst hk; rw [aget_aput_same]; simp
       ·rw [aget_aput_other hk, hL k]; simp [hk]
     case measure => simp [intOf]; omega
  ·have HR := Lib.hid (slots_yes (t := t) (by have := hlA.out; omega) hnd)
   go_wp2
   go_ret
   exact ⟨by rw [HR.out]; rfl, hx⟩
end Go.Proofs.YtlpfcmnnmdhaoaaGreat
