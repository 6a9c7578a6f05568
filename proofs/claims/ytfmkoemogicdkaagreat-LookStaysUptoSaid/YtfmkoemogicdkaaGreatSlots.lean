/- The iterator over a job's slots: its contract, for every loop body that keeps the store, the job and what the iterator makes. -/
import Derived.Test.YtfmkoemogicdkaaGreatIndexes
namespace Go.Proofs.YtfmkoemogicdkaaGreat
set_option linter.unusedVariables false
open Go.RowKit
attribute [local go_sem] Oper.semAt_some

def slotE (x : SlotD) : Array Value := #[.agg #[.int .i64 x.group, .int .i64 x.index]]
/-- either way: the indexes of a group -/
theorem indexes_any (j : JobD) (AG : Option Addr) (nG cG : Nat) (k : Nat) (g : GroupD) (AN : Option Addr) (nN cN : Nat) (ns : List NodD) (w : World) (s0 s1 s2 s3 s5 s6 s7 s8 : Value) (hG : Sl w 3 AG nG (j.groups.map GroupD.cells)) (hg : j.groups[k]? = some g) (hnG : nG ≤ 33554432)
    (hN : Sl w 8 AN nN (ns.map NodD.cells)) (hnN : nN ≤ 33554432) :
    Calls Tryz.prog 64 #[.agg #[s0, s1, s2, s3, .slice AN nN cN, s5, s6, s7, s8], .agg (JobV.cells (j, .slice AG nG cG)).toArray, .int .i64 k] w fun e w' =>
      ∃ A' c', e = .returned (.slice A' (indexesF ns j.ty g).length c') ∧ w'.ownsRow w.heap.size 3 1 (.slice A' (indexesF ns j.ty g).length c') (indexesF ns j.ty g).length ((indexesF ns j.ty g).flatMap intC) ∧ Ext Nothing w w' := by
  by_cases h : j.ty = 3
  · have e : indexesF ns j.ty g = upNodes ns := by unfold indexesF; rw [if_pos h]
    rw [e]
    exact indexes_sys j _ k AN nN cN ns w s0 s1 s2 s3 s5 s6 s7 s8 hN hnN h
  · have e : indexesF ns j.ty g = (List.range (countF g)).map (fun i : Nat => (i : Int)) := by unfold indexesF; rw [if_neg h]
    rw [e]
    exact indexes_count j AG nG cG k g w s0 s1 s2 s3 _ s5 s6 s7 s8 hG hg (by omega) h

theorem own_block_of {w : World} {base e sz n c : Nat} {A : Option Addr} {xs : List Value} (h : w.ownsRow base e sz (.slice A n c) n xs) {b : Nat} (hb : A.map (·.block) = some b) : (Value.slice A n c).ownBlock = some b := by
  rcases h.2 with ⟨h1, _⟩ | ⟨g, cap, cur, h1, _⟩
  · cases h1; cases hb
  · cases h1; simpa [Value.ownBlock] using hb

structure SlotsAt (S : Nat → Prop) (B : Nat) (w : World) (bs bj : Nat) (sv : Array Value) (j : JobD) (AG : Option Addr) (nG cG : Nat) (AN : Option Addr) (nN cN : Nat) (ns : List NodD) : Prop where
  st : Blk w bs 29 sv
  jb : Blk w bj 43 (JobV.cells (j, .slice AG nG cG)).toArray
  gr : Sl w 3 AG nG (j.groups.map GroupD.cells)
  nd : Sl w 8 AN nN (ns.map NodD.cells)
  free : ∀ b, S b ∨ rowAt B w b → b ≠ bs ∧ b ≠ bj ∧ (AG.map (·.block) = some b → j.groups = []) ∧ (AN.map (·.block) = some b → ns = [])
section
variable {S : Nat → Prop} {B : Nat} {w w' : World} {bs bj : Nat} {sv : Array Value} {j : JobD} {AG AN : Option Addr} {nG cG nN cN : Nat} {ns : List NodD}
theorem SlotsAt.keep (h : SlotsAt S B w bs bj sv j AG nG cG AN nN cN ns) (k : Keep S B w w') : SlotsAt S B w' bs bj sv j AG nG cG AN nN cN ns where
  st := k.blk h.st (fun e => (h.free bs (.inl e)).1 rfl) (fun e => (h.free bs (.inr e)).1 rfl)
  jb := k.blk h.jb (fun e => (h.free bj (.inl e)).2.1 rfl) (fun e => (h.free bj (.inr e)).2.1 rfl)
  gr := k.sl h.gr (fun b hb hne => ⟨fun e => hne (by rw [(h.free b (.inl e)).2.2.1 hb]; rfl), fun e => hne (by rw [(h.free b (.inr e)).2.2.1 hb]; rfl)⟩)
  nd := k.sl h.nd (fun b hb hne => ⟨fun e => hne (by rw [(h.free b (.inl e)).2.2.2 hb]; rfl), fun e => hne (by rw [(h.free b (.inr e)).2.2.2 hb]; rfl)⟩)
  free := fun b hb => by
    rcases hb with hb | hb
    · exact h.free b (.inl hb)
    · rcases k.row b hb with e | e
      · exact h.free b (.inr e)
      · refine ⟨fun e' => ?_, fun e' => ?_, fun e' => ?_, fun e' => ?_⟩
        · have := h.st.lt; omega
        · have := h.jb.lt; omega
        · cases hg : j.groups with
          | nil => rfl
          | cons x r =>
            obtain ⟨b', off, hA, _, hc⟩ := h.gr.2 0 (GroupD.cells x) (by rw [hg]; rfl)
            rw [hA] at e'
            cases e'
            have := World.block_lt_of_cell? w _ (hc 0 _ rfl)
            have e2 : w.heap.size ≤ b' := e.1
            have e3 : b' < w.heap.size := this
            omega
        · cases hg : ns with
          | nil => rfl
          | cons x r =>
            obtain ⟨b', off, hA, _, hc⟩ := h.nd.2 0 (NodD.cells x) (by rw [hg]; rfl)
            rw [hA] at e'
            cases e'
            have := World.block_lt_of_cell? w _ (hc 0 _ rfl)
            have e2 : w.heap.size ≤ b' := e.1
            have e3 : b' < w.heap.size := this
            omega
end

set_option maxRecDepth 100000 in
set_option maxHeartbeats 2000000 in
theorem slots_in (n : Nat) (S : Nat → Prop) (B : Nat) (w : World) (bs bj : Nat) (j : JobD) (AG : Option Addr) (nG cG : Nat) (AN : Option Addr) (nN cN : Nat) (ns : List NodD) (s0 s1 s2 s3 s5 s6 s7 s8 : Value)
    (h : SlotsAt S B w bs bj #[s0, s1, s2, s3, .slice AN nN cN, s5, s6, s7, s8] j AG nG cG AN nN cN ns) (hB : B < w.heap.size) (hS : ∀ b, S b ∨ rowAt B w b → b < w.heap.size) (hnG : nG ≤ 33554432) (hnN : nN ≤ 33554432)
    (l : Nat) (J Jx : List SlotD → World → Prop) (W : World) (hW : Below w.heap.size w W) (hJ : AbidesFrom W.heap.size J) (hJx : AbidesFrom W.heap.size Jx)
    (hY : ∀ pre x W1, J pre W1 → pre ++ [x] <+: slotsF ns j → YieldAt Fence.wide (n - 1) Tryz.prog l (slotE x) W1 fun e W' =>
      (e = .returned (.bool true) ∧ J (pre ++ [x]) W' ∧ Keep S B W1 W') ∨ (e = .returned (.bool false) ∧ Jx (pre ++ [x]) W'))
    (h0 : J [] W) :
    CallsIn Fence.wide n Tryz.prog 63 (#[.func (.yield l) #[] #[]] ++ #[.pointer (some ⟨bj, 0, none⟩), .pointer (some ⟨bs, 0, none⟩)]) W fun e W' => (∃ v, e = .returned v) ∧ ((∃ xs, xs = slotsF ns j ∧ J xs W') ∨ (∃ pre, pre <+: slotsF ns j ∧ Jx pre W')) := by
  have hKW : Keep S B w W := Keep.of_ext0 (Ext.of_below' hW) hB
  have hA := h.keep hKW
  have hBW : B < W.heap.size := Nat.lt_of_lt_of_le hB hW.size
  have hSW : ∀ b, S b ∨ rowAt B W b → b < W.heap.size := fun b hb => by
    rcases hb with hb | hb
    · exact Nat.lt_of_lt_of_le (hS b (.inl hb)) hW.size
    · rcases hKW.row b hb with e | e
      · exact Nat.lt_of_lt_of_le (hS b (.inr e)) hW.size
      · exact e.2
  have hlenG := Lib.hid h.gr.len
  clear h hB hS hKW hW
  have q6 : W.cell? ⟨bj, 6, none⟩ = some (.bool j.stopped) := hA.jb.cell 6
  have q4 : W.cell? ⟨bj, 4, none⟩ = some (.slice AG nG cG) := hA.jb.cell 4
  refine callsIn_of_wp Tryz.func63 rfl trivial ?_ rfl
  simp only [Tryz.ntmps63, slotE, List.size_toArray, List.length_cons, List.length_nil, Nat.reduceAdd, Nat.reduceSub, Array.replicate_succ, Array.replicate_zero, List.push_toArray, List.append_toArray, List.nil_append, List.cons_append]
  cases hst : j.stopped with
  | true =>
    have he : slotsF ns j = [] := by unfold slotsF; rw [if_pos hst]
    have HE := Lib.hid he
    rw [hst] at q6
    clear he hY
    gi_wp2
    refine bodyPost_ret (results_none rfl _ _ _) rfl ?_
    exact ⟨⟨_, rfl⟩, .inl ⟨[], HE.out.symm, h0⟩⟩
  | false =>
    have he : slotsF ns j = slotsOf ns j.ty j.groups := by unfold slotsF; rw [if_neg (by rw [hst]; simp)]
    rw [he] at hY ⊢
    have hst' := Lib.hid hst
    rw [hst] at q6
    clear he hst
    gi_wp2
    gi_loopw [12] (fun i wr => ∃ k : Nat, k ≤ nG ∧ i = .int .i64 k ∧ J (slotsOf ns j.ty (j.groups.take k)) wr ∧ Keep S B W wr) (fun i _ => nG - (intOf i).toNat)
    case atStart => exact ⟨0, Nat.zero_le _, rfl, by rw [slotsOf_zero]; exact h0, Keep.refl _ _ _⟩
    case round =>
      obtain ⟨k, hk, rfl, hJs, hK⟩ := hrel
      by_cases hlt : k < nG
      · have hkl : k < j.groups.length := by have := hlenG.out; omega
        have hg : j.groups[k]? = some j.groups[k] := List.getElem?_eq_getElem hkl
        have hsu := Lib.hid (slotsOf_succ ns j.ty j.groups k hkl)
        have hpf := Lib.hid (slotsOf_prefix ns j.ty j.groups (k + 1))
        generalize j.groups[k] = g at hg hsu
        obtain ⟨wo, hwo⟩ : ∃ wo : World, wo = wr := ⟨_, rfl⟩
        subst hwo
        have hAr := hA.keep hK
        gi_wp2_with (first | (refine wpListIn_load_blk rfl 29 _ rfl STStore bs rfl #[s0, s1, s2, s3, .slice AN nN cN, s5, s6, s7, s8] hAr.st rfl ?_) | (refine wpListIn_load_blk rfl 43 _ rfl STJob bj rfl (JobV.cells (j, .slice AG nG cG)).toArray hAr.jb rfl ?_) | (refine ⟨trivial, fun hd => Bool.noConfusion hd, ?_⟩; gi_at_call 64; refine (callsIn_wide.2 (indexes_any j AG nG cG k g AN nN cN ns _ s0 s1 s2 s3 s5 s6 s7 s8 hAr.gr hg hnG hAr.nd hnN)).mono ?_; rintro e w3 ⟨A', c', rfl, hown, hx3⟩))
        generalize hL : indexesF ns j.ty g = L at hown
        have hpre : ∀ t, slotsOf ns j.ty (j.groups.take k) ++ (L.take t).map (fun i => (⟨(k : Int), i⟩ : SlotD)) <+: slotsOf ns j.ty j.groups := fun t => by
          refine List.IsPrefix.trans ?_ hpf.out
          rw [hsu.out, slotsAt, hL]
          refine (List.prefix_append_right_inj _).2 ?_
          conv => rhs; rw [← List.take_append_drop t L, List.map_append]
          exact List.prefix_append _ _
        have hHP := Lib.hid hpre
        have hHL := Lib.hid hL
        have hLs : L.length ≤ 33554436 := by
          have h1 := indexes_len ns j.ty g
          have h2 := hA.nd.len
          rw [hL] at h1
          omega
        clear hpre hL
        have hJ3 : J (slotsOf ns j.ty (j.groups.take k)) w3 := hJ _ wo w3 none hJs hx3.grownBy0 (fun r e => by cases e)
        have hszo : W.heap.size ≤ wo.heap.size := hK.size
        have hK3 : Keep S B W w3 := hK.trans (Keep.of_ext0 hx3 (by omega))
        have hsl := Sl.of_own intC_len hown rfl
        have hfree : ∀ b, A'.map (·.block) = some b → L.map intC ≠ [] → ¬ S b ∧ ¬ rowAt B w3 b := fun b hb _ => by
          have hge := own_ge hown (own_block_of hown hb)
          refine ⟨fun e => ?_, fun e => ?_⟩
          · have := hSW b (.inl e); omega
          · rw [rowAt_ext hx3 (by omega) (fun e => e)] at e
            rcases hK.row b e with e | e
            · have := hSW b (.inr e); omega
            · omega
        clear hown
        gi_loopw [20] (fun i w4 => ∃ t : Nat, t ≤ L.length ∧ i = .int .i64 t ∧ J (slotsOf ns j.ty (j.groups.take k) ++ (L.take t).map (fun i => (⟨(k : Int), i⟩ : SlotD))) w4 ∧ Keep S B w3 w4) (fun i _ => L.length - (intOf i).toNat)
        case atStart => exact ⟨0, Nat.zero_le _, rfl, by simpa using hJ3, Keep.refl _ _ _⟩
        case round =>
          obtain ⟨t, ht, rfl, hJ4, hK4⟩ := hrel
          by_cases hlt2 : t < L.length
          · obtain ⟨hx1, b, off, rfl, _, hce⟩ := (hK4.sl hsl hfree).at_ hlt2
            have hLt : t < L.length := hlt2
            have hgt : (L.map intC)[t] = intC L[t] := by simp
            rw [hgt] at hce
            have htk : (L.take (t + 1)).map (fun i => (⟨(k : Int), i⟩ : SlotD)) = (L.take t).map (fun i => (⟨(k : Int), i⟩ : SlotD)) ++ [⟨(k : Int), L[t]⟩] := by
              rw [List.take_add_one, List.getElem?_eq_getElem hlt2, List.map_append]; rfl
            generalize L[t] = iv at hce htk
            have hc1 : wr.cell? ⟨b, off + t, none⟩ = some (.int .i64 iv) := by simpa using hce 0 _ rfl
            have hc2 : wr.cell? ⟨b, off + t * 1, none⟩ = some (.int .i64 iv) := by simpa using hce 0 _ rfl
            have hpx : (slotsOf ns j.ty (j.groups.take k) ++ (L.take t).map (fun i => (⟨(k : Int), i⟩ : SlotD))) ++ [⟨(k : Int), iv⟩] <+: slotsOf ns j.ty j.groups := by rw [List.append_assoc, ← htk]; exact hHP.out (t + 1)
            obtain ⟨fn, tmps, assign, body, hy, hR⟩ := hY _ (⟨(k : Int), iv⟩ : SlotD) wr hJ4 hpx
            rw [List.append_assoc, ← htk] at hR
            dsimp only [slotE] at hy
            have HTK := Lib.hid htk
            clear htk hpx hce hY
            gi_wp2
            refine ⟨fun hd => Bool.noConfusion hd, hR.mono ?_⟩
            rintro e W5 (⟨rfl, hJ5, hk5⟩ | ⟨rfl, hJx5⟩)
            · gi_wp2
              go_roundw
              case rel => exact ⟨t + 1, by omega, by go_num, hJ5, hK4.trans hk5⟩
              case measure => simp [intOf]; omega
            · gi_wp2
              refine bodyPost_ret (results_none rfl _ _ _) rfl ?_
              exact ⟨⟨_, rfl⟩, .inr ⟨_, hHP.out (t + 1), hJx5⟩⟩
          · obtain rfl : t = L.length := by omega
            have hfull : slotsOf ns j.ty (j.groups.take k) ++ (L.take L.length).map (fun i => (⟨(k : Int), i⟩ : SlotD)) = slotsOf ns j.ty (j.groups.take (k + 1)) := by
              rw [List.take_length, hsu.out, slotsAt, hHL.out]
            rw [hfull] at hJ4
            clear hfull
            gi_wp2
            go_roundw
            case rel => exact ⟨k + 1, by omega, by go_num, hJ4, hK3.trans hK4⟩
            case measure => simp [intOf]; omega
      · obtain rfl : k = nG := by omega
        have hfull : j.groups.take k = j.groups := List.take_of_length_le (by have := hlenG.out; omega)
        rw [hfull] at hJs
        gi_wp2
        go_end0
        exact ⟨⟨_, rfl⟩, .inl ⟨_, rfl, hJs⟩⟩
theorem slots_stops (n : Nat) (S : Nat → Prop) (B : Nat) (w : World) (bs bj : Nat) (j : JobD) (AG : Option Addr) (nG cG : Nat) (AN : Option Addr) (nN cN : Nat) (ns : List NodD) (s0 s1 s2 s3 s5 s6 s7 s8 : Value)
    (h : SlotsAt S B w bs bj #[s0, s1, s2, s3, .slice AN nN cN, s5, s6, s7, s8] j AG nG cG AN nN cN ns) (hB : B < w.heap.size) (hS : ∀ b, S b ∨ rowAt B w b → b < w.heap.size) (hnG : nG ≤ 33554432) (hnN : nN ≤ 33554432) :
    SeqStopsK Fence.wide n Tryz.prog 63 #[.pointer (some ⟨bj, 0, none⟩), .pointer (some ⟨bs, 0, none⟩)] slotE (Keep S B) (fun xs => xs = slotsF ns j) (fun pre => pre <+: slotsF ns j) (slotsF ns j).length w := fun l J Jx W hW hJ hJx hY h0 =>
  slots_in n S B w bs bj j AG nG cG AN nN cN ns s0 s1 s2 s3 s5 s6 s7 s8 h hB hS hnG hnN l J Jx W hW hJ hJx (fun pre x W1 hj hp => hY pre x W1 hj (by have := hp.length_le; simp only [List.length_append, List.length_cons, List.length_nil] at this; omega)) h0
/-- the same for a loop body that may lean on what holds of each slot -/
theorem slots_stopsP (p : SlotD → Prop) (n : Nat) (S : Nat → Prop) (B : Nat) (w : World) (bs bj : Nat) (j : JobD) (AG : Option Addr) (nG cG : Nat) (AN : Option Addr) (nN cN : Nat) (ns : List NodD) (s0 s1 s2 s3 s5 s6 s7 s8 : Value)
    (h : SlotsAt S B w bs bj #[s0, s1, s2, s3, .slice AN nN cN, s5, s6, s7, s8] j AG nG cG AN nN cN ns) (hB : B < w.heap.size) (hS : ∀ b, S b ∨ rowAt B w b → b < w.heap.size) (hnG : nG ≤ 33554432) (hnN : nN ≤ 33554432) (hp : ∀ x ∈ slotsF ns j, p x) :
    SeqStopsK (α := { x : SlotD // p x }) Fence.wide n Tryz.prog 63 #[.pointer (some ⟨bj, 0, none⟩), .pointer (some ⟨bs, 0, none⟩)] (fun x => slotE x.1) (Keep S B) (fun xs => xs.map (·.1) = slotsF ns j) (fun pre => pre.map (·.1) <+: slotsF ns j) (slotsF ns j).length w := fun l J Jx W hW hJ hJx hY h0 => by
  refine (slots_in n S B w bs bj j AG nG cG AN nN cN ns s0 s1 s2 s3 s5 s6 s7 s8 h hB hS hnG hnN l (fun pre X => ∃ q : List { x : SlotD // p x }, q.map (·.1) = pre ∧ J q X) (fun pre X => ∃ q : List { x : SlotD // p x }, q.map (·.1) = pre ∧ Jx q X) W hW
    (fun pre X Y row hs hg hr => by obtain ⟨q, e, hs⟩ := hs; exact ⟨q, e, hJ q X Y row hs hg hr⟩) (fun pre X Y row hs hg hr => by obtain ⟨q, e, hs⟩ := hs; exact ⟨q, e, hJx q X Y row hs hg hr⟩) ?_ ⟨[], rfl, h0⟩).mono ?_
  · rintro pre x W1 ⟨q, rfl, hj⟩ hpx
    have hx : p x := hp x (hpx.subset (by simp))
    have hlen : q.length < (slotsF ns j).length := by have := hpx.length_le; simp only [List.length_append, List.length_map, List.length_cons, List.length_nil] at this; omega
    obtain ⟨fn, tmps, assign, body, hy, hR⟩ := hY q ⟨x, hx⟩ W1 hj hlen
    refine ⟨fn, tmps, assign, body, hy, hR.mono ?_⟩
    rintro e W' (⟨rfl, h1, h2⟩ | ⟨rfl, h1⟩)
    · exact .inl ⟨rfl, ⟨q ++ [⟨x, hx⟩], by simp, h1⟩, h2⟩
    · exact .inr ⟨rfl, q ++ [⟨x, hx⟩], by simp, h1⟩
  · rintro e W' ⟨hv, ⟨xs, rfl, q, e1, h1⟩ | ⟨pre, hpre, q, e1, h1⟩⟩
    · exact ⟨hv, .inl ⟨q, e1, h1⟩⟩
    · exact ⟨hv, .inr ⟨q, by show q.map (·.1) <+: slotsF ns j; rw [e1]; exact hpre, h1⟩⟩
end Go.Proofs.YtfmkoemogicdkaaGreat
