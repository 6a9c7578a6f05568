/- roll: stops some of other versions, too: as many as may be under change. (printed by wip/gen/roll.py) -/
import Derived.Test.YtfmkoemogicdkaaGreatRollL
namespace Go.Proofs.YtfmkoemogicdkaaGreat
set_option linter.unusedVariables false
open Go.RowKit
open Go.Maps (Keyed)
attribute [local go_sem] Oper.semAt_some

theorem ULint : Tryz.prog.underlying 3 = some (.int .i64) := by kernel_rfl
theorem ULmib : Tryz.prog.underlying 122 = some (.map 3 4) := by kernel_rfl
theorem ZVbool (w : World) : (zeroValue 4).run Tryz.prog w = .ok (.bool false) w := by
  have h : (Tryz.prog.info? 4).bind (·.zero) = some (.bool false) := by kernel_rfl
  obtain ⟨i, h1, h2⟩ := Option.bind_eq_some_iff.1 h
  simp [zeroValue, typeInfo, h1, h2, Result.andThen]
theorem KLint : Keyed Tryz.prog 3 := Maps.int_keyed ULint
theorem wf_small (i : Nat) (h : i ≤ 67108864) : (Lit.int .i64 (i : Int)).wf = true := by
  simp [Lit.wf, IntKind.min, IntKind.max, IntKind.signed, IntKind.bits]
  omega
theorem inj_int : ∀ x y : Int, Value.int .i64 x = Value.int .i64 y → x = y := fun x y h => by injection h
theorem look_int {w : World} {b : Nat} {L : List (Int × Bool)} (h : MapIs Tryz.prog 3 (.int .i64) .bool w b L) (i : Nat) (hi : i ≤ 67108864) :
    (Instr.lookup 122 (.map (some b)) (.int .i64 (i : Int)) false).run Tryz.prog w = .ok (.bool ((aget (i : Int) L).getD false)) w := by
  have := h.look KLint inj_int ULmib (ZVbool w) (Maps.keyOf_int_mk ULint (wf_small i hi)) false
  simp only [Bool.false_eq_true, if_false] at this
  rw [this]
  cases aget (i : Int) L <;> rfl
theorem Sl.old {w : World} {sz n : Nat} {A : Option Addr} {xs : List (List Value)} (h : Sl w sz A n xs) (h0 : 0 < sz) {b : Nat} (hb : A.map (·.block) = some b) (hge : w.heap.size ≤ b) : xs = [] := by
  cases hx : xs with
  | nil => rfl
  | cons y r =>
    obtain ⟨b', off, hA, hl, hc⟩ := h.2 0 y (by rw [hx]; rfl)
    rw [hA] at hb
    cases hb
    have := World.block_lt_of_cell? w _ (hc 0 _ (List.getElem?_eq_getElem (by omega)))
    have e2 : b' < w.heap.size := this
    have e3 : w.heap.size ≤ b' := hge
    omega
theorem Keep.turn {S : Nat → Prop} {B : Nat} {W W' : World} (h : Ext S W W') (hB : B < W.heap.size) (hn : ¬ S B) : Keep S B W W' := Keep.of_ext h hB hn

structure RollI (l : List AllocD) (j : JobD) (w0 W2 : World) (mv sb mb D : Nat) (r0 : Value) (n0 : Nat) (z : Int × List Int × List Int) (pre : List SlotD) (W : World) (m : Int) (s p : List Int) (A : Option Addr) (c : Nat) (L : List (Int × Bool)) : Prop where
  fold : pre.foldl (rollStep l j) z = (m, s, p)
  ext : Ext (fun b => b = mv ∨ b = sb ∨ b = mb ∨ r0.ownBlock = some b) W2 W
  bm : Blk W mv 3 #[.int .i64 m]
  bs : Blk W sb 81 #[.slice A s.length c]
  own : W.ownsRow w0.heap.size 3 1 (.slice A s.length c) s.length (s.flatMap intC)
  loc : ∀ b, (Value.slice A s.length c).ownBlock = some b → r0.ownBlock = some b ∨ W2.heap.size ≤ b
  mp : MapIs Tryz.prog 3 (.int .i64) .bool W mb L
  mpL : ∀ x, (aget x L).getD false = p.contains x
  dd : W.heap[D]? = some (.deferred (some []))
  len : s.length ≤ n0 + pre.length
section
variable {l : List AllocD} {j : JobD} {w0 W2 W W' : World} {mv sb mb D n0 : Nat} {r0 : Value} {z : Int × List Int × List Int} {pre : List SlotD} {m : Int} {s p : List Int} {A : Option Addr} {c : Nat} {L : List (Int × Bool)} {x : SlotD}
theorem RollI.turn (h : RollI l j w0 W2 mv sb mb D r0 n0 z pre W m s p A c L) {row : Option Nat} (hg : W.grownBy W' row) (hr : Turn W W2.heap.size row) (hD : D < W2.heap.size) (hmb : mb < W2.heap.size) : RollI l j w0 W2 mv sb mb D r0 n0 z pre W' m s p A c L :=
  ⟨h.fold, ext_turn h.ext hg hr (Nat.le_refl _), blk_turn h.bm hg hr, blk_turn h.bs hg hr, own_turn h.own hg hr, h.loc, map_turn h.mp hg hr hmb, h.mpL, heap_turn h.dd hg hr hD, h.len⟩
theorem RollI.same (h : RollI l j w0 W2 mv sb mb D r0 n0 z pre W m s p A c L) (hx : Ext Nothing W W') (hs : rollStep l j (m, s, p) x = (m, s, p)) : RollI l j w0 W2 mv sb mb D r0 n0 z (pre ++ [x]) W' m s p A c L :=
  ⟨by rw [List.foldl_append, h.fold]; exact hs, h.ext.trans hx (fun _ _ e => e.elim), h.bm.ext hx (fun e => e), h.bs.ext hx (fun e => e), own_ext h.own hx (fun _ _ e => e), h.loc, h.mp.ext hx (fun e => e), h.mpL, hx.heap h.dd (fun e => e), by rw [List.length_append]; have := h.len; omega⟩
theorem RollI.stay (h : RollI l j w0 W2 mv sb mb D r0 n0 z pre W m s p A c L) (hx : Ext Nothing W W') : RollI l j w0 W2 mv sb mb D r0 n0 z pre W' m s p A c L :=
  ⟨h.fold, h.ext.trans hx (fun _ _ e => e.elim), h.bm.ext hx (fun e => e), h.bs.ext hx (fun e => e), own_ext h.own hx (fun _ _ e => e), h.loc, h.mp.ext hx (fun e => e), h.mpL, hx.heap h.dd (fun e => e), h.len⟩
end
theorem roll_stuck (l : List AllocD) (j : JobD) : ∀ (r : List SlotD) (z : Int × List Int × List Int), z.1 ≥ j.par → r.foldl (rollStep l j) z = z
  | [], _, _ => rfl
  | x :: r, z, h => by rw [List.foldl_cons, show rollStep l j z x = z by unfold rollStep; rw [if_pos h]]; exact roll_stuck l j r z h

set_option maxRecDepth 100000 in
set_option maxHeartbeats 4000000 in
theorem roll_any (w0 w : World) (h0w : Ext Nothing w0 w) (j : JobD) (AG : Option Addr) (nG cG : Nat) (AN : Option Addr) (nN cN : Nat) (ns : List NodD) (AA : Option Addr) (nA cA : Nat) (l : List AllocD) (s0 s1 s2 s3 s6 s7 s8 : Value)
    (hG : Sl w0 3 AG nG (j.groups.map GroupD.cells)) (hN : Sl w0 8 AN nN (ns.map NodD.cells)) (hA : Sl w0 11 AA nA (l.map AllocD.cells)) (hnG : nG ≤ 1048576) (hnN : nN ≤ 1048576) (hnA : nA ≤ 1048576)
    (A : Option Addr) (c : Nat) (st ps : List Int) (hst : w.ownsRow w0.heap.size 3 1 (.slice A st.length c) st.length (st.flatMap intC)) (hnb : st.length ≤ 1048576)
    (mb : Nat) (L : List (Int × Bool)) (hmb : w0.heap.size ≤ mb) (hm : MapIs Tryz.prog 3 (.int .i64) .bool w mb L) (hL : ∀ x, (aget x L).getD false = ps.contains x) :
    Calls Tryz.prog 51 #[.agg #[s0, s1, s2, s3, .slice AN nN cN, .slice AA nA cA, s6, s7, s8], .agg (JobV.cells (j, .slice AG nG cG)).toArray, .slice A st.length c, .map (some mb)] w fun e w' =>
      ∃ A' c', e = .returned (.slice A' (rollF ns l j (st, ps)).2.1.length c') ∧ w'.ownsRow w0.heap.size 3 1 (.slice A' (rollF ns l j (st, ps)).2.1.length c') (rollF ns l j (st, ps)).2.1.length ((rollF ns l j (st, ps)).2.1.flatMap intC) ∧
        Ext (fun b => b = mb ∨ (Value.slice A st.length c).ownBlock = some b) w w' := by
  have hz0 := h0w.size
  have hmlt := hm.lt
  refine (callsIn_wide (n := 3)).1 ?_
  refine callsIn_of_wp_marks Tryz.func51 rfl trivial ?_ rfl
  simp only [Tryz.ntmps51, List.size_toArray, List.length_cons, List.length_nil, Nat.reduceAdd, Nat.reduceSub, Array.replicate_succ, Array.replicate_zero, List.push_toArray, List.append_toArray, List.nil_append, List.cons_append]
  gi_wp2_with (first | (refine wpListIn_load_blk (t := 43) rfl 43 _ rfl STJob (w.heap.size + 1) rfl (JobV.cells (j, .slice AG nG cG)).toArray ?hJ rfl ?_) | ((first | refine ⟨trivial, fun hd => Bool.noConfusion hd, ?_⟩ | refine ⟨trivial, ?_⟩); gi_at_call 50; refine (callsIn_wide.2 (slots_ret _ _ _)).mono ?_; rintro e w' ⟨rfl, rfl⟩))
  case hJ => exact (Blk.new' (w.alloc (.cells #[s0, s1, s2, s3, .slice AN nN cN, .slice AA nA cA, s6, s7, s8] 29)) _ _ (by simp)).ext (S := Nothing) (by (repeat' (first | (with_reducible assumption) | (with_reducible exact Ext.refl _ _) | (with_reducible refine Ext.alloc ?_ _) | (with_reducible refine Ext.drew ?_) | (with_reducible refine Ext.drewN ?_ _) | (with_reducible refine Ext.setCell ?_ (.inl (by simp only [World.size_alloc, World.size_setCell, World.size_drew] <;> omega)) _) | (with_reducible refine Ext.trans ?_ (by assumption) (fun _ _ e => e))))) (fun e => e)
  have B0 : Blk (((((((w.alloc (.cells #[s0, s1, s2, s3, .slice AN nN cN, .slice AA nA cA, s6, s7, s8] 29)).alloc (.cells (JobV.cells (j, .slice AG nG cG)).toArray 43)).alloc (.cells #[.slice A st.length c] 81)).alloc (.cells #[.map (some mb)] 122)).alloc (.cells #[.int .i64 0] 3)).alloc (.cells #[s0, s1, s2, s3, .slice AN nN cN, .slice AA nA cA, s6, s7, s8] 29)).alloc (.cells (JobV.cells (j, .slice AG nG cG)).toArray 43)) (w.heap.size) 29 #[s0, s1, s2, s3, .slice AN nN cN, .slice AA nA cA, s6, s7, s8] := (Blk.new' w _ _ (by simp)).ext (S := Nothing) (by (repeat' (first | (with_reducible assumption) | (with_reducible exact Ext.refl _ _) | (with_reducible refine Ext.alloc ?_ _) | (with_reducible refine Ext.drew ?_) | (with_reducible refine Ext.drewN ?_ _) | (with_reducible refine Ext.setCell ?_ (.inl (by simp only [World.size_alloc, World.size_setCell, World.size_drew] <;> omega)) _) | (with_reducible refine Ext.trans ?_ (by assumption) (fun _ _ e => e))))) (fun e => e)
  have B1 : Blk (((((((w.alloc (.cells #[s0, s1, s2, s3, .slice AN nN cN, .slice AA nA cA, s6, s7, s8] 29)).alloc (.cells (JobV.cells (j, .slice AG nG cG)).toArray 43)).alloc (.cells #[.slice A st.length c] 81)).alloc (.cells #[.map (some mb)] 122)).alloc (.cells #[.int .i64 0] 3)).alloc (.cells #[s0, s1, s2, s3, .slice AN nN cN, .slice AA nA cA, s6, s7, s8] 29)).alloc (.cells (JobV.cells (j, .slice AG nG cG)).toArray 43)) (w.heap.size + 1) 43 (JobV.cells (j, .slice AG nG cG)).toArray := (Blk.new' (w.alloc (.cells #[s0, s1, s2, s3, .slice AN nN cN, .slice AA nA cA, s6, s7, s8] 29)) _ _ (by simp)).ext (S := Nothing) (by (repeat' (first | (with_reducible assumption) | (with_reducible exact Ext.refl _ _) | (with_reducible refine Ext.alloc ?_ _) | (with_reducible refine Ext.drew ?_) | (with_reducible refine Ext.drewN ?_ _) | (with_reducible refine Ext.setCell ?_ (.inl (by simp only [World.size_alloc, World.size_setCell, World.size_drew] <;> omega)) _) | (with_reducible refine Ext.trans ?_ (by assumption) (fun _ _ e => e))))) (fun e => e)
  have B2 : Blk (((((((w.alloc (.cells #[s0, s1, s2, s3, .slice AN nN cN, .slice AA nA cA, s6, s7, s8] 29)).alloc (.cells (JobV.cells (j, .slice AG nG cG)).toArray 43)).alloc (.cells #[.slice A st.length c] 81)).alloc (.cells #[.map (some mb)] 122)).alloc (.cells #[.int .i64 0] 3)).alloc (.cells #[s0, s1, s2, s3, .slice AN nN cN, .slice AA nA cA, s6, s7, s8] 29)).alloc (.cells (JobV.cells (j, .slice AG nG cG)).toArray 43)) (w.heap.size + 1 + 1) 81 #[.slice A st.length c] := (Blk.new' ((w.alloc (.cells #[s0, s1, s2, s3, .slice AN nN cN, .slice AA nA cA, s6, s7, s8] 29)).alloc (.cells (JobV.cells (j, .slice AG nG cG)).toArray 43)) _ _ (by simp)).ext (S := Nothing) (by (repeat' (first | (with_reducible assumption) | (with_reducible exact Ext.refl _ _) | (with_reducible refine Ext.alloc ?_ _) | (with_reducible refine Ext.drew ?_) | (with_reducible refine Ext.drewN ?_ _) | (with_reducible refine Ext.setCell ?_ (.inl (by simp only [World.size_alloc, World.size_setCell, World.size_drew] <;> omega)) _) | (with_reducible refine Ext.trans ?_ (by assumption) (fun _ _ e => e))))) (fun e => e)
  have B3 : Blk (((((((w.alloc (.cells #[s0, s1, s2, s3, .slice AN nN cN, .slice AA nA cA, s6, s7, s8] 29)).alloc (.cells (JobV.cells (j, .slice AG nG cG)).toArray 43)).alloc (.cells #[.slice A st.length c] 81)).alloc (.cells #[.map (some mb)] 122)).alloc (.cells #[.int .i64 0] 3)).alloc (.cells #[s0, s1, s2, s3, .slice AN nN cN, .slice AA nA cA, s6, s7, s8] 29)).alloc (.cells (JobV.cells (j, .slice AG nG cG)).toArray 43)) (w.heap.size + 1 + 1 + 1) 122 #[.map (some mb)] := (Blk.new' (((w.alloc (.cells #[s0, s1, s2, s3, .slice AN nN cN, .slice AA nA cA, s6, s7, s8] 29)).alloc (.cells (JobV.cells (j, .slice AG nG cG)).toArray 43)).alloc (.cells #[.slice A st.length c] 81)) _ _ (by simp)).ext (S := Nothing) (by (repeat' (first | (with_reducible assumption) | (with_reducible exact Ext.refl _ _) | (with_reducible refine Ext.alloc ?_ _) | (with_reducible refine Ext.drew ?_) | (with_reducible refine Ext.drewN ?_ _) | (with_reducible refine Ext.setCell ?_ (.inl (by simp only [World.size_alloc, World.size_setCell, World.size_drew] <;> omega)) _) | (with_reducible refine Ext.trans ?_ (by assumption) (fun _ _ e => e))))) (fun e => e)
  have B4 : Blk (((((((w.alloc (.cells #[s0, s1, s2, s3, .slice AN nN cN, .slice AA nA cA, s6, s7, s8] 29)).alloc (.cells (JobV.cells (j, .slice AG nG cG)).toArray 43)).alloc (.cells #[.slice A st.length c] 81)).alloc (.cells #[.map (some mb)] 122)).alloc (.cells #[.int .i64 0] 3)).alloc (.cells #[s0, s1, s2, s3, .slice AN nN cN, .slice AA nA cA, s6, s7, s8] 29)).alloc (.cells (JobV.cells (j, .slice AG nG cG)).toArray 43)) (w.heap.size + 1 + 1 + 1 + 1) 3 #[.int .i64 0] := (Blk.new' ((((w.alloc (.cells #[s0, s1, s2, s3, .slice AN nN cN, .slice AA nA cA, s6, s7, s8] 29)).alloc (.cells (JobV.cells (j, .slice AG nG cG)).toArray 43)).alloc (.cells #[.slice A st.length c] 81)).alloc (.cells #[.map (some mb)] 122)) _ _ (by simp)).ext (S := Nothing) (by (repeat' (first | (with_reducible assumption) | (with_reducible exact Ext.refl _ _) | (with_reducible refine Ext.alloc ?_ _) | (with_reducible refine Ext.drew ?_) | (with_reducible refine Ext.drewN ?_ _) | (with_reducible refine Ext.setCell ?_ (.inl (by simp only [World.size_alloc, World.size_setCell, World.size_drew] <;> omega)) _) | (with_reducible refine Ext.trans ?_ (by assumption) (fun _ _ e => e))))) (fun e => e)
  have B5 : Blk (((((((w.alloc (.cells #[s0, s1, s2, s3, .slice AN nN cN, .slice AA nA cA, s6, s7, s8] 29)).alloc (.cells (JobV.cells (j, .slice AG nG cG)).toArray 43)).alloc (.cells #[.slice A st.length c] 81)).alloc (.cells #[.map (some mb)] 122)).alloc (.cells #[.int .i64 0] 3)).alloc (.cells #[s0, s1, s2, s3, .slice AN nN cN, .slice AA nA cA, s6, s7, s8] 29)).alloc (.cells (JobV.cells (j, .slice AG nG cG)).toArray 43)) (w.heap.size + 1 + 1 + 1 + 1 + 1) 29 #[s0, s1, s2, s3, .slice AN nN cN, .slice AA nA cA, s6, s7, s8] := (Blk.new' (((((w.alloc (.cells #[s0, s1, s2, s3, .slice AN nN cN, .slice AA nA cA, s6, s7, s8] 29)).alloc (.cells (JobV.cells (j, .slice AG nG cG)).toArray 43)).alloc (.cells #[.slice A st.length c] 81)).alloc (.cells #[.map (some mb)] 122)).alloc (.cells #[.int .i64 0] 3)) _ _ (by simp)).ext (S := Nothing) (by (repeat' (first | (with_reducible assumption) | (with_reducible exact Ext.refl _ _) | (with_reducible refine Ext.alloc ?_ _) | (with_reducible refine Ext.drew ?_) | (with_reducible refine Ext.drewN ?_ _) | (with_reducible refine Ext.setCell ?_ (.inl (by simp only [World.size_alloc, World.size_setCell, World.size_drew] <;> omega)) _) | (with_reducible refine Ext.trans ?_ (by assumption) (fun _ _ e => e))))) (fun e => e)
  have B6 : Blk (((((((w.alloc (.cells #[s0, s1, s2, s3, .slice AN nN cN, .slice AA nA cA, s6, s7, s8] 29)).alloc (.cells (JobV.cells (j, .slice AG nG cG)).toArray 43)).alloc (.cells #[.slice A st.length c] 81)).alloc (.cells #[.map (some mb)] 122)).alloc (.cells #[.int .i64 0] 3)).alloc (.cells #[s0, s1, s2, s3, .slice AN nN cN, .slice AA nA cA, s6, s7, s8] 29)).alloc (.cells (JobV.cells (j, .slice AG nG cG)).toArray 43)) (w.heap.size + 1 + 1 + 1 + 1 + 1 + 1) 43 (JobV.cells (j, .slice AG nG cG)).toArray := (Blk.new' ((((((w.alloc (.cells #[s0, s1, s2, s3, .slice AN nN cN, .slice AA nA cA, s6, s7, s8] 29)).alloc (.cells (JobV.cells (j, .slice AG nG cG)).toArray 43)).alloc (.cells #[.slice A st.length c] 81)).alloc (.cells #[.map (some mb)] 122)).alloc (.cells #[.int .i64 0] 3)).alloc (.cells #[s0, s1, s2, s3, .slice AN nN cN, .slice AA nA cA, s6, s7, s8] 29)) _ _ (by simp)).ext (S := Nothing) (by (repeat' (first | (with_reducible assumption) | (with_reducible exact Ext.refl _ _) | (with_reducible refine Ext.alloc ?_ _) | (with_reducible refine Ext.drew ?_) | (with_reducible refine Ext.drewN ?_ _) | (with_reducible refine Ext.setCell ?_ (.inl (by simp only [World.size_alloc, World.size_setCell, World.size_drew] <;> omega)) _) | (with_reducible refine Ext.trans ?_ (by assumption) (fun _ _ e => e))))) (fun e => e)
  have hx1 : Ext Nothing w (((((((w.alloc (.cells #[s0, s1, s2, s3, .slice AN nN cN, .slice AA nA cA, s6, s7, s8] 29)).alloc (.cells (JobV.cells (j, .slice AG nG cG)).toArray 43)).alloc (.cells #[.slice A st.length c] 81)).alloc (.cells #[.map (some mb)] 122)).alloc (.cells #[.int .i64 0] 3)).alloc (.cells #[s0, s1, s2, s3, .slice AN nN cN, .slice AA nA cA, s6, s7, s8] 29)).alloc (.cells (JobV.cells (j, .slice AG nG cG)).toArray 43)) := by (repeat' (first | (with_reducible assumption) | (with_reducible exact Ext.refl _ _) | (with_reducible refine Ext.alloc ?_ _) | (with_reducible refine Ext.drew ?_) | (with_reducible refine Ext.drewN ?_ _) | (with_reducible refine Ext.setCell ?_ (.inl (by simp only [World.size_alloc, World.size_setCell, World.size_drew] <;> omega)) _) | (with_reducible refine Ext.trans ?_ (by assumption) (fun _ _ e => e))))
  have hz1 : (((((((w.alloc (.cells #[s0, s1, s2, s3, .slice AN nN cN, .slice AA nA cA, s6, s7, s8] 29)).alloc (.cells (JobV.cells (j, .slice AG nG cG)).toArray 43)).alloc (.cells #[.slice A st.length c] 81)).alloc (.cells #[.map (some mb)] 122)).alloc (.cells #[.int .i64 0] 3)).alloc (.cells #[s0, s1, s2, s3, .slice AN nN cN, .slice AA nA cA, s6, s7, s8] 29)).alloc (.cells (JobV.cells (j, .slice AG nG cG)).toArray 43)).heap.size = w.heap.size + 7 := by simp
  obtain ⟨W1, hW1⟩ : ∃ W1, (((((((w.alloc (.cells #[s0, s1, s2, s3, .slice AN nN cN, .slice AA nA cA, s6, s7, s8] 29)).alloc (.cells (JobV.cells (j, .slice AG nG cG)).toArray 43)).alloc (.cells #[.slice A st.length c] 81)).alloc (.cells #[.map (some mb)] 122)).alloc (.cells #[.int .i64 0] 3)).alloc (.cells #[s0, s1, s2, s3, .slice AN nN cN, .slice AA nA cA, s6, s7, s8] 29)).alloc (.cells (JobV.cells (j, .slice AG nG cG)).toArray 43)) = W1 := ⟨_, rfl⟩
  rw [hW1] at B0 B1 B2 B3 B4 B5 B6 hx1 hz1 ⊢
  clear hW1
  have h01 : Ext Nothing w0 W1 := h0w.trans hx1 (fun _ _ e => e)
  have hrow1 : ∀ b, rowAt (w.heap.size + 1 + 1) W1 b → w0.heap.size ≤ b ∧ b < w.heap.size := fun b hb => by
    obtain ⟨v, hv, hvb⟩ := hb
    rw [B2.cell 0] at hv
    cases hv
    exact ⟨own_ge hst hvb, own_lt hst hvb⟩
  have hSA : ∀ S : Nat → Prop, (∀ b, S b → w0.heap.size ≤ b ∧ b < w.heap.size + 1 + 1 + 1 + 1 + 1) → SlotsAt S (w.heap.size + 1 + 1) W1 (w.heap.size + 1 + 1 + 1 + 1 + 1) (w.heap.size + 1 + 1 + 1 + 1 + 1 + 1) #[s0, s1, s2, s3, .slice AN nN cN, .slice AA nA cA, s6, s7, s8] j AG nG cG AN nN cN ns := fun S hS =>
    ⟨B5, B6, hG.ext0 h01, hN.ext0 h01, fun b hb => by
      have hb' : w0.heap.size ≤ b ∧ b < w.heap.size + 1 + 1 + 1 + 1 + 1 := by
        rcases hb with hb | hb
        · exact hS b hb
        · have := hrow1 b hb; omega
      exact ⟨by omega, by omega, fun e => List.map_eq_nil_iff.1 (hG.old (by omega) e hb'.1), fun e => List.map_eq_nil_iff.1 (hN.old (by omega) e hb'.1)⟩⟩
  refine wpIn_rangeFunc_ownH (w0 := W1) (α := SlotD) (n := 3) rfl (by omega) (gf := 63) (lb := #[.pointer (some ⟨w.heap.size + 1 + 1 + 1 + 1 + 1 + 1, 0, none⟩), .pointer (some ⟨w.heap.size + 1 + 1 + 1 + 1 + 1, 0, none⟩)]) rfl trivial (enters_of Tryz.func63 (by kernel_rfl) rfl)
    (slots_stops 2 (fun b => b = w.heap.size + 1 + 1 + 1 + 1) (w.heap.size + 1 + 1) W1 (w.heap.size + 1 + 1 + 1 + 1 + 1) (w.heap.size + 1 + 1 + 1 + 1 + 1 + 1) j AG nG cG AN nN cN ns s0 s1 s2 s3 _ s6 s7 s8 (hSA _ (fun b e => by omega)) (by omega) (fun b e => by rcases e with e | e; omega; have := hrow1 b e; omega) (by omega) (by omega))
    (fun h k => Keep.trans h k) (fun W l o o' h1 h2 h3 h4 => keep_b (w := W1) (by omega) W l o o' h1 h2 h3 h4) (Below.refl _ _) (fun _ => rfl)
    (fun pre W => Ext (fun b => b = w.heap.size + 1 + 1 + 1 + 1) W1 W ∧ Blk W (w.heap.size + 1 + 1 + 1 + 1) 3 #[.int .i64 (pre.foldl (movStep l j ps) 0)])
    (fun _ _ _ => False)
    (fun pre X Y row hs hg hr => ⟨ext_turn hs.1 hg hr (Nat.le_refl _), blk_turn hs.2 hg hr⟩)
    (fun _ _ _ _ _ hs _ _ => hs)
    ⟨Ext.refl _ _, B4⟩
    (fun x a' W => ∃ Bx, W1.heap.size ≤ Bx ∧ Blk W Bx 86 #[.int .i64 x.group, .int .i64 x.index] ∧ a' = { tmps := #[.agg #[s0, s1, s2, s3, .slice AN nN cN, .slice AA nA cA, s6, s7, s8], .agg (JobV.cells (j, .slice AG nG cG)).toArray, .slice A st.length c, .map (some mb), .pointer (some ⟨w.heap.size, 0, none⟩), .pointer (some ⟨w.heap.size + 1, 0, none⟩), .pointer (some ⟨w.heap.size + 1 + 1, 0, none⟩), .pointer (some ⟨w.heap.size + 1 + 1 + 1, 0, none⟩), .slice none 0 0, .pointer (some ⟨w.heap.size + 1 + 1 + 1 + 1, 0, none⟩), .pointer (some ⟨Bx, 0, none⟩), undef, undef, undef, .agg #[s0, s1, s2, s3, .slice AN nN cN, .slice AA nA cA, s6, s7, s8], .agg (JobV.cells (j, .slice AG nG cG)).toArray, .func (.func 63) #[] #[.pointer (some ⟨w.heap.size + 1 + 1 + 1 + 1 + 1 + 1, 0, none⟩), .pointer (some ⟨w.heap.size + 1 + 1 + 1 + 1 + 1, 0, none⟩)], .agg #[.int .i64 x.group, .int .i64 x.index], undef, undef, undef, undef, undef, undef, undef, undef, undef, undef, undef, undef, undef, undef, undef, undef, undef, undef, undef, undef, undef, undef, undef, undef, undef, undef, undef, undef, undef, undef, undef, undef, undef, undef, undef, undef, undef, undef, undef, undef, undef, undef, undef, undef, undef, undef, undef, undef, undef, undef, undef, undef, undef, undef, undef, undef, undef, undef, undef, undef, undef, undef, undef, undef, undef, undef, undef, undef, undef, undef, undef, undef, undef, undef, undef, undef, undef, undef, undef, undef, undef, undef, undef, undef, undef, undef, undef, undef, undef, undef, undef, undef, undef, undef, undef, undef, undef, undef, undef, undef, undef], defers := [] })
    (fun x a' _ X Y row hs hg hr => by obtain ⟨Bx, h1, h2, h3⟩ := hs; exact ⟨Bx, h1, blk_turn h2 hg hr, h3⟩)
    ?assign ?body ?done ?stop
  case assign =>
    rintro l pre x W K ⟨hI, hM⟩ hK
    simp only [slotE]
    gi_wp2
    have hIs := hI.size
    exact hK _ _ ((KeepsOthers.alloc _ _).from _) (Keep.of_ext0 (by (repeat' (first | (with_reducible assumption) | (with_reducible exact Ext.refl _ _) | (with_reducible refine Ext.alloc ?_ _) | (with_reducible refine Ext.drew ?_) | (with_reducible refine Ext.drewN ?_ _) | (with_reducible refine Ext.setCell ?_ (.inl (by simp only [World.size_alloc, World.size_setCell, World.size_drew] <;> omega)) _) | (with_reducible refine Ext.trans ?_ (by assumption) (fun _ _ e => e))))) (by omega)) ⟨hI.alloc _, hM.ext (S := Nothing) (by (repeat' (first | (with_reducible assumption) | (with_reducible exact Ext.refl _ _) | (with_reducible refine Ext.alloc ?_ _) | (with_reducible refine Ext.drew ?_) | (with_reducible refine Ext.drewN ?_ _) | (with_reducible refine Ext.setCell ?_ (.inl (by simp only [World.size_alloc, World.size_setCell, World.size_drew] <;> omega)) _) | (with_reducible refine Ext.trans ?_ (by assumption) (fun _ _ e => e))))) (fun e => e)⟩ ⟨W.heap.size, hI.size, Blk.new _ _ _, rfl⟩
  case body =>
    rintro la pre x a' W hl ⟨r, hr⟩ ⟨hI, hM⟩ ⟨Bx, hBx, bX, rfl⟩ hlt
    clear hr r hl hlt
    have hIz := hI.size
    have h0W : Ext Nothing w0 W := h01.trans hI (fun b hb e => absurd e (by omega))
    have k0 := B0.ext hI (by omega)
    have k1 := B1.ext hI (by omega)
    have k3 := B3.ext hI (by omega)
    have slA := hA.ext0 h0W
    have hmW := (hm.ext hx1 (fun e => e)).ext hI (by omega)
    have e0 : W.cell? ⟨w.heap.size + 1, 0, none⟩ = some (.int .i64 j.id) := k1.cell 0
    have x0 : W.cell? ⟨Bx, 0, none⟩ = some (.int .i64 x.group) := bX.cell 0
    have x1 : W.cell? ⟨Bx, 1, none⟩ = some (.int .i64 x.index) := bX.cell 1
    generalize hMM : pre.foldl (movStep l j ps) 0 = M at hM
    have hset : ∀ (X : World) (u : Int), Blk X (w.heap.size + 1 + 1 + 1 + 1) 3 #[.int .i64 M] → Blk (X.setCell ⟨w.heap.size + 1 + 1 + 1 + 1, 0, none⟩ (.int .i64 u)) (w.heap.size + 1 + 1 + 1 + 1) 3 #[.int .i64 u] := fun X u hX => hX.set_ 0 _
    have hfin : ∀ (W' : World) (v : Int), Ext (fun b => b = w.heap.size + 1 + 1 + 1 + 1) W W' → Blk W' (w.heap.size + 1 + 1 + 1 + 1) 3 #[.int .i64 v] → v = movStep l j ps M x →
        KeepsFrom W1.heap.size W W' ∧ Keep (fun b => b = w.heap.size + 1 + 1 + 1 + 1) (w.heap.size + 1 + 1) W W' ∧ Ext (fun b => b = w.heap.size + 1 + 1 + 1 + 1) W1 W' ∧ Blk W' (w.heap.size + 1 + 1 + 1 + 1) 3 #[.int .i64 ((pre ++ [x]).foldl (movStep l j ps) 0)] := fun W' v hE hB hv => by
      refine ⟨hE.keepsFrom (fun b hb e => by omega), Keep.of_ext hE (by omega) (by omega), hI.trans hE (fun _ _ e => e), ?_⟩
      rw [List.foldl_append, hMM, List.foldl_cons, List.foldl_nil, ← hv]; exact hB
    have hfin0 : ∀ (W' : World), Ext (fun b => b = w.heap.size + 1 + 1 + 1 + 1) W W' → Blk W' (w.heap.size + 1 + 1 + 1 + 1) 3 #[.int .i64 M] → movStep l j ps M x = M →
        KeepsFrom W1.heap.size W W' ∧ Keep (fun b => b = w.heap.size + 1 + 1 + 1 + 1) (w.heap.size + 1 + 1) W W' ∧ Ext (fun b => b = w.heap.size + 1 + 1 + 1 + 1) W1 W' ∧ Blk W' (w.heap.size + 1 + 1 + 1 + 1) 3 #[.int .i64 ((pre ++ [x]).foldl (movStep l j ps) 0)] := fun W' hE hB hv => hfin W' M hE hB hv.symm
    clear hMM hI
    rcases idx_cases (slotB j.id x.group x.index) l with ⟨hp, _, _⟩ | ⟨i, a, hp, ha, _, _, _⟩
    · have HB := Lib.hid (show wrap64 (M + 1) = movStep l j ps M x by simp [movStep, movB, holdI, hp])
      have HP := Lib.hid hp
      clear hp
      gi_wp2_with (first | (refine wpListIn_load_blk rfl 29 _ rfl STStore w.heap.size rfl #[s0, s1, s2, s3, .slice AN nN cN, .slice AA nA cA, s6, s7, s8] k0 rfl ?_) | ((first | refine ⟨trivial, fun hd => Bool.noConfusion hd, ?_⟩ | refine ⟨trivial, ?_⟩); gi_at_call 52; refine (CallsIn.inRound la (callsIn_wide.2 (findSlot AA nA cA l _ _ _ _ slA (by omega) s0 s1 s2 s3 _ s6 s7 s8))).mono ?_; rintro e w3 ⟨rfl, hx3⟩; rw [HP.out]; have m3 := hM.ext hx3 (fun e => e); have c4 : w3.cell? ⟨w.heap.size + 1 + 1 + 1 + 1, 0, none⟩ = some (.int .i64 M) := m3.cell 0; have f4 : w3.frozen? ⟨w.heap.size + 1 + 1 + 1 + 1, 0, none⟩ = false := m3.frozen 0; skip))
      (refine wpIn_region_quiet_lit (by kernel_rfl) (by kernel_rfl) (by kernel_rfl) ?_; (repeat (first | go_big_quiet_skip | (go_big_quiet_want; go_big_quiet_op; go_big_quiet_on))); refine wpQuiet_nil ?_; intro wq hwq; obtain ⟨nq, hwq⟩ := hwq; subst hwq)
      gi_wp2
      exact hfin _ _ ((Ext.drewN (hx3.mono (S' := fun b => b = w.heap.size + 1 + 1 + 1 + 1) (fun _ _ e => e.elim)) _).setCell (.inr rfl) _) (hset _ _ (m3.ext (S := Nothing) (Ext.drewN (Ext.refl _ _) _) (fun e => e))) HB.out
    · have hil : i < l.length := (List.getElem?_eq_some_iff.1 ha).1
      have hin : i < nA := by have := hA.len; omega
      have hi0 : ¬ ((i : Int) < 0) := by omega
      have hi1 : decide ((i : Int) < 0) = false := by simp
      obtain ⟨_, b, off, rfl, hce⟩ := hA.get h0W hin
      rw [(List.getElem?_eq_some_iff.1 ha).2] at hce
      cases hc : ps.contains (i : Int) with
      | true =>
        have HC := Lib.hid hc
        have HB := Lib.hid (show wrap64 (M + 1) = movStep l j ps M x by unfold movStep; rw [if_pos (by simp only [movB, holdI, hp, ha, Int.toNat_natCast, hc]; simp)])
        have HP := Lib.hid hp
        clear hp ha hc
        gi_wp2_with (first | (refine wpListIn_load_blk rfl 29 _ rfl STStore w.heap.size rfl #[s0, s1, s2, s3, .slice AN nN cN, .slice (some ⟨b, off, none⟩) nA cA, s6, s7, s8] k0 rfl ?_) | ((first | refine ⟨trivial, fun hd => Bool.noConfusion hd, ?_⟩ | refine ⟨trivial, ?_⟩); gi_at_call 52; refine (CallsIn.inRound la (callsIn_wide.2 (findSlot _ nA cA l _ _ _ _ slA (by omega) s0 s1 s2 s3 _ s6 s7 s8))).mono ?_; rintro e w3 ⟨rfl, hx3⟩; rw [HP.out]; have m3 := hM.ext hx3 (fun e => e); have c4 : w3.cell? ⟨w.heap.size + 1 + 1 + 1 + 1, 0, none⟩ = some (.int .i64 M) := m3.cell 0; have f4 : w3.frozen? ⟨w.heap.size + 1 + 1 + 1 + 1, 0, none⟩ = false := m3.frozen 0; have cm : w3.cell? ⟨w.heap.size + 1 + 1 + 1, 0, none⟩ = some (.map (some mb)) := (k3.ext hx3 (fun e => e)).cell 0; have cs : w3.cell? ⟨w.heap.size, 5, none⟩ = some (.slice (some ⟨b, off, none⟩) nA cA) := (k0.ext hx3 (fun e => e)).cell 5; have cv : w3.cell? ⟨w.heap.size + 1, 5, none⟩ = some (.int .i64 j.ver) := (k1.ext hx3 (fun e => e)).cell 5; have lk : ∀ m, (Instr.lookup 122 (.map (some mb)) (.int .i64 (i : Int)) false).run Tryz.prog (w3.drewN m) = .ok (.bool true) (w3.drewN m) := fun m => (by rw [look_int (hmW.ext (S := Nothing) (Ext.drewN hx3 m) (fun e => e)) i (by omega), hL, HC.out]); have a9 : w3.cell? ⟨b, off + i * 11 + 9, none⟩ = some (.bool a.stop) := hx3.cell (hce 9 _ rfl) (fun e => e); have a2 : w3.cell? ⟨b, off + i * 11 + 2, none⟩ = some (.int .i64 a.ver) := hx3.cell (hce 2 _ rfl) (fun e => e); have a10 : w3.cell? ⟨b, off + i * 11 + 10, none⟩ = some (.int .i64 a.state) := hx3.cell (hce 10 _ rfl) (fun e => e); skip))
        (refine wpIn_region_quiet_lit (by kernel_rfl) (by kernel_rfl) (by kernel_rfl) ?_; (repeat (first | go_big_quiet_skip | (go_big_quiet_want; go_big_quiet_op; go_big_quiet_on))); refine wpQuiet_nil ?_; intro wq hwq; obtain ⟨nq, hwq⟩ := hwq; subst hwq)
        gi_wp2
        exact hfin _ _ ((Ext.drewN (hx3.mono (S' := fun b => b = w.heap.size + 1 + 1 + 1 + 1) (fun _ _ e => e.elim)) _).setCell (.inr rfl) _) (hset _ _ (m3.ext (S := Nothing) (Ext.drewN (Ext.refl _ _) _) (fun e => e))) HB.out
      | false =>
        have HC := Lib.hid hc
        cases hs : a.stop with
        | true =>
          have HB := Lib.hid (show wrap64 (M + 1) = movStep l j ps M x by unfold movStep; rw [if_pos (by simp only [movB, holdI, hp, ha, Int.toNat_natCast, hc, hs]; simp)])
          have HP := Lib.hid hp
          have HS := Lib.hid hs
          clear hp ha hc hs
          gi_wp2_with (first | (refine wpListIn_load_blk rfl 29 _ rfl STStore w.heap.size rfl #[s0, s1, s2, s3, .slice AN nN cN, .slice (some ⟨b, off, none⟩) nA cA, s6, s7, s8] k0 rfl ?_) | ((first | refine ⟨trivial, fun hd => Bool.noConfusion hd, ?_⟩ | refine ⟨trivial, ?_⟩); gi_at_call 52; refine (CallsIn.inRound la (callsIn_wide.2 (findSlot _ nA cA l _ _ _ _ slA (by omega) s0 s1 s2 s3 _ s6 s7 s8))).mono ?_; rintro e w3 ⟨rfl, hx3⟩; rw [HP.out]; have m3 := hM.ext hx3 (fun e => e); have c4 : w3.cell? ⟨w.heap.size + 1 + 1 + 1 + 1, 0, none⟩ = some (.int .i64 M) := m3.cell 0; have f4 : w3.frozen? ⟨w.heap.size + 1 + 1 + 1 + 1, 0, none⟩ = false := m3.frozen 0; have cm : w3.cell? ⟨w.heap.size + 1 + 1 + 1, 0, none⟩ = some (.map (some mb)) := (k3.ext hx3 (fun e => e)).cell 0; have cs : w3.cell? ⟨w.heap.size, 5, none⟩ = some (.slice (some ⟨b, off, none⟩) nA cA) := (k0.ext hx3 (fun e => e)).cell 5; have cv : w3.cell? ⟨w.heap.size + 1, 5, none⟩ = some (.int .i64 j.ver) := (k1.ext hx3 (fun e => e)).cell 5; have lk : ∀ m, (Instr.lookup 122 (.map (some mb)) (.int .i64 (i : Int)) false).run Tryz.prog (w3.drewN m) = .ok (.bool false) (w3.drewN m) := fun m => (by rw [look_int (hmW.ext (S := Nothing) (Ext.drewN hx3 m) (fun e => e)) i (by omega), hL, HC.out]); have a9 : w3.cell? ⟨b, off + i * 11 + 9, none⟩ = some (.bool a.stop) := hx3.cell (hce 9 _ rfl) (fun e => e); have a2 : w3.cell? ⟨b, off + i * 11 + 2, none⟩ = some (.int .i64 a.ver) := hx3.cell (hce 2 _ rfl) (fun e => e); have a10 : w3.cell? ⟨b, off + i * 11 + 10, none⟩ = some (.int .i64 a.state) := hx3.cell (hce 10 _ rfl) (fun e => e); rw [HS.out] at a9))
          (refine wpIn_region_quiet_lit (by kernel_rfl) (by kernel_rfl) (by kernel_rfl) ?_; (repeat (first | go_big_quiet_skip | (go_big_quiet_want; go_big_quiet_op; go_big_quiet_on))); refine wpQuiet_nil ?_; intro wq hwq; obtain ⟨nq, hwq⟩ := hwq; subst hwq)
          gi_wp2
          exact hfin _ _ ((Ext.drewN (hx3.mono (S' := fun b => b = w.heap.size + 1 + 1 + 1 + 1) (fun _ _ e => e.elim)) _).setCell (.inr rfl) _) (hset _ _ (m3.ext (S := Nothing) (Ext.drewN (Ext.refl _ _) _) (fun e => e))) HB.out
        | false =>
          cases hv : (a.ver == j.ver) with
          | false =>
            have HB := Lib.hid (show movStep l j ps M x = M by unfold movStep; rw [if_neg (by simp only [movB, holdI, hp, ha, Int.toNat_natCast, hc, hs, hv]; simp; try omega)])
            have HP := Lib.hid hp
            have HS := Lib.hid hs
            clear hp ha hc hs
            gi_wp2_with (first | (refine wpListIn_load_blk rfl 29 _ rfl STStore w.heap.size rfl #[s0, s1, s2, s3, .slice AN nN cN, .slice (some ⟨b, off, none⟩) nA cA, s6, s7, s8] k0 rfl ?_) | ((first | refine ⟨trivial, fun hd => Bool.noConfusion hd, ?_⟩ | refine ⟨trivial, ?_⟩); gi_at_call 52; refine (CallsIn.inRound la (callsIn_wide.2 (findSlot _ nA cA l _ _ _ _ slA (by omega) s0 s1 s2 s3 _ s6 s7 s8))).mono ?_; rintro e w3 ⟨rfl, hx3⟩; rw [HP.out]; have m3 := hM.ext hx3 (fun e => e); have c4 : w3.cell? ⟨w.heap.size + 1 + 1 + 1 + 1, 0, none⟩ = some (.int .i64 M) := m3.cell 0; have f4 : w3.frozen? ⟨w.heap.size + 1 + 1 + 1 + 1, 0, none⟩ = false := m3.frozen 0; have cm : w3.cell? ⟨w.heap.size + 1 + 1 + 1, 0, none⟩ = some (.map (some mb)) := (k3.ext hx3 (fun e => e)).cell 0; have cs : w3.cell? ⟨w.heap.size, 5, none⟩ = some (.slice (some ⟨b, off, none⟩) nA cA) := (k0.ext hx3 (fun e => e)).cell 5; have cv : w3.cell? ⟨w.heap.size + 1, 5, none⟩ = some (.int .i64 j.ver) := (k1.ext hx3 (fun e => e)).cell 5; have lk : ∀ m, (Instr.lookup 122 (.map (some mb)) (.int .i64 (i : Int)) false).run Tryz.prog (w3.drewN m) = .ok (.bool false) (w3.drewN m) := fun m => (by rw [look_int (hmW.ext (S := Nothing) (Ext.drewN hx3 m) (fun e => e)) i (by omega), hL, HC.out]); have a9 : w3.cell? ⟨b, off + i * 11 + 9, none⟩ = some (.bool a.stop) := hx3.cell (hce 9 _ rfl) (fun e => e); have a2 : w3.cell? ⟨b, off + i * 11 + 2, none⟩ = some (.int .i64 a.ver) := hx3.cell (hce 2 _ rfl) (fun e => e); have a10 : w3.cell? ⟨b, off + i * 11 + 10, none⟩ = some (.int .i64 a.state) := hx3.cell (hce 10 _ rfl) (fun e => e); rw [HS.out] at a9))
            (refine wpIn_region_quiet_lit (by kernel_rfl) (by kernel_rfl) (by kernel_rfl) ?_; (repeat (first | go_big_quiet_skip | (go_big_quiet_want; go_big_quiet_op; go_big_quiet_on))); refine wpQuiet_nil ?_; intro wq hwq; obtain ⟨nq, hwq⟩ := hwq; subst hwq)
            gi_wp2
            exact hfin0 _ (Ext.drewN (hx3.mono (fun _ _ e => e.elim)) _) (m3.ext (S := Nothing) (Ext.drewN (Ext.refl _ _) _) (fun e => e)) HB.out
          | true =>
            cases hr : (a.state == 2) with
            | false =>
              have HB := Lib.hid (show wrap64 (M + 1) = movStep l j ps M x by unfold movStep; rw [if_pos (by simp only [movB, holdI, hp, ha, Int.toNat_natCast, hc, hs, hv, hr, bne]; simp)])
              have HP := Lib.hid hp
              have HS := Lib.hid hs
              have HV := Lib.hid hv
              clear hp ha hc hs hv
              gi_wp2_with (first | (refine wpListIn_load_blk rfl 29 _ rfl STStore w.heap.size rfl #[s0, s1, s2, s3, .slice AN nN cN, .slice (some ⟨b, off, none⟩) nA cA, s6, s7, s8] k0 rfl ?_) | ((first | refine ⟨trivial, fun hd => Bool.noConfusion hd, ?_⟩ | refine ⟨trivial, ?_⟩); gi_at_call 52; refine (CallsIn.inRound la (callsIn_wide.2 (findSlot _ nA cA l _ _ _ _ slA (by omega) s0 s1 s2 s3 _ s6 s7 s8))).mono ?_; rintro e w3 ⟨rfl, hx3⟩; rw [HP.out]; have m3 := hM.ext hx3 (fun e => e); have c4 : w3.cell? ⟨w.heap.size + 1 + 1 + 1 + 1, 0, none⟩ = some (.int .i64 M) := m3.cell 0; have f4 : w3.frozen? ⟨w.heap.size + 1 + 1 + 1 + 1, 0, none⟩ = false := m3.frozen 0; have cm : w3.cell? ⟨w.heap.size + 1 + 1 + 1, 0, none⟩ = some (.map (some mb)) := (k3.ext hx3 (fun e => e)).cell 0; have cs : w3.cell? ⟨w.heap.size, 5, none⟩ = some (.slice (some ⟨b, off, none⟩) nA cA) := (k0.ext hx3 (fun e => e)).cell 5; have cv : w3.cell? ⟨w.heap.size + 1, 5, none⟩ = some (.int .i64 j.ver) := (k1.ext hx3 (fun e => e)).cell 5; have lk : ∀ m, (Instr.lookup 122 (.map (some mb)) (.int .i64 (i : Int)) false).run Tryz.prog (w3.drewN m) = .ok (.bool false) (w3.drewN m) := fun m => (by rw [look_int (hmW.ext (S := Nothing) (Ext.drewN hx3 m) (fun e => e)) i (by omega), hL, HC.out]); have a9 : w3.cell? ⟨b, off + i * 11 + 9, none⟩ = some (.bool a.stop) := hx3.cell (hce 9 _ rfl) (fun e => e); have a2 : w3.cell? ⟨b, off + i * 11 + 2, none⟩ = some (.int .i64 a.ver) := hx3.cell (hce 2 _ rfl) (fun e => e); have a10 : w3.cell? ⟨b, off + i * 11 + 10, none⟩ = some (.int .i64 a.state) := hx3.cell (hce 10 _ rfl) (fun e => e); rw [HS.out] at a9; rw [show a.ver = j.ver from (by simpa using HV.out)] at a2))
              (refine wpIn_region_quiet_lit (by kernel_rfl) (by kernel_rfl) (by kernel_rfl) ?_; (repeat (first | go_big_quiet_skip | (go_big_quiet_want; go_big_quiet_op; go_big_quiet_on))); refine wpQuiet_nil ?_; intro wq hwq; obtain ⟨nq, hwq⟩ := hwq; subst hwq)
              gi_wp2
              exact hfin _ _ ((Ext.drewN (hx3.mono (S' := fun b => b = w.heap.size + 1 + 1 + 1 + 1) (fun _ _ e => e.elim)) _).setCell (.inr rfl) _) (hset _ _ (m3.ext (S := Nothing) (Ext.drewN (Ext.refl _ _) _) (fun e => e))) HB.out
            | true =>
              have HB := Lib.hid (show movStep l j ps M x = M by unfold movStep; rw [if_neg (by simp only [movB, holdI, hp, ha, Int.toNat_natCast, hc, hs, hv, hr, bne]; simp; try omega)])
              have HP := Lib.hid hp
              have HS := Lib.hid hs
              have HV := Lib.hid hv
              have HR := Lib.hid hr
              clear hp ha hc hs hv hr
              gi_wp2_with (first | (refine wpListIn_load_blk rfl 29 _ rfl STStore w.heap.size rfl #[s0, s1, s2, s3, .slice AN nN cN, .slice (some ⟨b, off, none⟩) nA cA, s6, s7, s8] k0 rfl ?_) | ((first | refine ⟨trivial, fun hd => Bool.noConfusion hd, ?_⟩ | refine ⟨trivial, ?_⟩); gi_at_call 52; refine (CallsIn.inRound la (callsIn_wide.2 (findSlot _ nA cA l _ _ _ _ slA (by omega) s0 s1 s2 s3 _ s6 s7 s8))).mono ?_; rintro e w3 ⟨rfl, hx3⟩; rw [HP.out]; have m3 := hM.ext hx3 (fun e => e); have c4 : w3.cell? ⟨w.heap.size + 1 + 1 + 1 + 1, 0, none⟩ = some (.int .i64 M) := m3.cell 0; have f4 : w3.frozen? ⟨w.heap.size + 1 + 1 + 1 + 1, 0, none⟩ = false := m3.frozen 0; have cm : w3.cell? ⟨w.heap.size + 1 + 1 + 1, 0, none⟩ = some (.map (some mb)) := (k3.ext hx3 (fun e => e)).cell 0; have cs : w3.cell? ⟨w.heap.size, 5, none⟩ = some (.slice (some ⟨b, off, none⟩) nA cA) := (k0.ext hx3 (fun e => e)).cell 5; have cv : w3.cell? ⟨w.heap.size + 1, 5, none⟩ = some (.int .i64 j.ver) := (k1.ext hx3 (fun e => e)).cell 5; have lk : ∀ m, (Instr.lookup 122 (.map (some mb)) (.int .i64 (i : Int)) false).run Tryz.prog (w3.drewN m) = .ok (.bool false) (w3.drewN m) := fun m => (by rw [look_int (hmW.ext (S := Nothing) (Ext.drewN hx3 m) (fun e => e)) i (by omega), hL, HC.out]); have a9 : w3.cell? ⟨b, off + i * 11 + 9, none⟩ = some (.bool a.stop) := hx3.cell (hce 9 _ rfl) (fun e => e); have a2 : w3.cell? ⟨b, off + i * 11 + 2, none⟩ = some (.int .i64 a.ver) := hx3.cell (hce 2 _ rfl) (fun e => e); have a10 : w3.cell? ⟨b, off + i * 11 + 10, none⟩ = some (.int .i64 a.state) := hx3.cell (hce 10 _ rfl) (fun e => e); rw [HS.out] at a9; rw [show a.ver = j.ver from (by simpa using HV.out)] at a2; rw [show a.state = 2 from (by simpa using HR.out)] at a10))
              (refine wpIn_region_quiet_lit (by kernel_rfl) (by kernel_rfl) (by kernel_rfl) ?_; (repeat (first | go_big_quiet_skip | (go_big_quiet_want; go_big_quiet_op; go_big_quiet_on))); refine wpQuiet_nil ?_; intro wq hwq; obtain ⟨nq, hwq⟩ := hwq; subst hwq)
              gi_wp2
              exact hfin0 _ (Ext.drewN (hx3.mono (fun _ _ e => e.elim)) _) (m3.ext (S := Nothing) (Ext.drewN (Ext.refl _ _) _) (fun e => e)) HB.out
  case done =>
    rintro D xs W hD rfl ⟨hI, hM⟩ hK
    have hIz := hI.size
    have h0W : Ext Nothing w0 W := h01.trans hI (fun b hb e => absurd e (by omega))
    have k0 := B0.ext hI (by omega)
    have k1 := B1.ext hI (by omega)
    have k2 := B2.ext hI (by omega)
    have k3 := B3.ext hI (by omega)
    have hmW := (hm.ext hx1 (fun e => e)).ext hI (by omega)
    have hstW := own_ext (own_ext (S := Nothing) hst hx1 (fun _ _ e => e)) hI (fun g hg e => by have := own_lt hst hg; omega)
    generalize hMM : (slotsF ns j).foldl (movStep l j ps) 0 = M at hM
    have hDlt : D < W.heap.size := (Array.getElem?_eq_some_iff.1 hK).1
    gi_wp2_with (first | (refine wpListIn_load_blk rfl 29 _ rfl STStore w.heap.size rfl #[s0, s1, s2, s3, .slice AN nN cN, .slice AA nA cA, s6, s7, s8] k0 rfl ?_) | (refine wpListIn_load_blk rfl 43 _ rfl STJob (w.heap.size + 1) rfl (JobV.cells (j, .slice AG nG cG)).toArray k1 rfl ?_) | ((first | refine ⟨trivial, fun hd => Bool.noConfusion hd, ?_⟩ | refine ⟨trivial, ?_⟩); gi_at_call 50; refine (callsIn_wide.2 (slots_ret _ _ _)).mono ?_; rintro e w' ⟨rfl, rfl⟩))
    have hx2 : Ext Nothing W ((W.alloc (.cells #[s0, s1, s2, s3, .slice AN nN cN, .slice AA nA cA, s6, s7, s8] 29)).alloc (.cells (JobV.cells (j, .slice AG nG cG)).toArray 43)) := by (repeat' (first | (with_reducible assumption) | (with_reducible exact Ext.refl _ _) | (with_reducible refine Ext.alloc ?_ _) | (with_reducible refine Ext.drew ?_) | (with_reducible refine Ext.drewN ?_ _) | (with_reducible refine Ext.setCell ?_ (.inl (by simp only [World.size_alloc, World.size_setCell, World.size_drew] <;> omega)) _) | (with_reducible refine Ext.trans ?_ (by assumption) (fun _ _ e => e))))
    have hz2 : ((W.alloc (.cells #[s0, s1, s2, s3, .slice AN nN cN, .slice AA nA cA, s6, s7, s8] 29)).alloc (.cells (JobV.cells (j, .slice AG nG cG)).toArray 43)).heap.size = W.heap.size + 2 := by simp
    have C5 : Blk ((W.alloc (.cells #[s0, s1, s2, s3, .slice AN nN cN, .slice AA nA cA, s6, s7, s8] 29)).alloc (.cells (JobV.cells (j, .slice AG nG cG)).toArray 43)) W.heap.size 29 #[s0, s1, s2, s3, .slice AN nN cN, .slice AA nA cA, s6, s7, s8] := (Blk.new' W _ _ rfl).ext (S := Nothing) (by (repeat' (first | (with_reducible assumption) | (with_reducible exact Ext.refl _ _) | (with_reducible refine Ext.alloc ?_ _) | (with_reducible refine Ext.drew ?_) | (with_reducible refine Ext.drewN ?_ _) | (with_reducible refine Ext.setCell ?_ (.inl (by simp only [World.size_alloc, World.size_setCell, World.size_drew] <;> omega)) _) | (with_reducible refine Ext.trans ?_ (by assumption) (fun _ _ e => e))))) (fun e => e)
    have C6 : Blk ((W.alloc (.cells #[s0, s1, s2, s3, .slice AN nN cN, .slice AA nA cA, s6, s7, s8] 29)).alloc (.cells (JobV.cells (j, .slice AG nG cG)).toArray 43)) (W.heap.size + 1) 43 (JobV.cells (j, .slice AG nG cG)).toArray := Blk.new' (W.alloc (.cells #[s0, s1, s2, s3, .slice AN nN cN, .slice AA nA cA, s6, s7, s8] 29)) _ _ (by simp)
    obtain ⟨W2, hW2⟩ : ∃ W2, ((W.alloc (.cells #[s0, s1, s2, s3, .slice AN nN cN, .slice AA nA cA, s6, s7, s8] 29)).alloc (.cells (JobV.cells (j, .slice AG nG cG)).toArray 43)) = W2 := ⟨_, rfl⟩
    rw [hW2] at hx2 hz2 C5 C6 ⊢
    clear hW2
    have C0 := k0.ext hx2 (fun e => e)
    have C1 := k1.ext hx2 (fun e => e)
    have C2 := k2.ext hx2 (fun e => e)
    have C3 := k3.ext hx2 (fun e => e)
    have CM := hM.ext hx2 (fun e => e)
    have hm2 := hmW.ext hx2 (fun e => e)
    have hst2 := own_ext hstW hx2 (fun _ _ e => e)
    have hK2 := hx2.heap hK (fun e => e)
    have h02 : Ext Nothing w0 W2 := h0W.trans hx2 (fun _ _ e => e)
    have hrow2 : ∀ b, rowAt (w.heap.size + 1 + 1) W2 b → w0.heap.size ≤ b ∧ b < w.heap.size := fun b hb => by
      obtain ⟨v, hv, hvb⟩ := hb
      rw [C2.cell 0] at hv
      cases hv
      exact ⟨own_ge hst hvb, own_lt hst hvb⟩
    have hSA2 : SlotsAt (fun b => b = w.heap.size + 1 + 1 + 1 + 1 ∨ b = w.heap.size + 1 + 1) (w.heap.size + 1 + 1) W2 W.heap.size (W.heap.size + 1) #[s0, s1, s2, s3, .slice AN nN cN, .slice AA nA cA, s6, s7, s8] j AG nG cG AN nN cN ns :=
      ⟨C5, C6, hG.ext0 h02, hN.ext0 h02, fun b hb => by
        have hb' : w0.heap.size ≤ b ∧ b < w.heap.size + 1 + 1 + 1 + 1 + 1 := by
          rcases hb with hb | hb
          · omega
          · have := hrow2 b hb; omega
        exact ⟨by omega, by omega, fun e => List.map_eq_nil_iff.1 (hG.old (by omega) e hb'.1), fun e => List.map_eq_nil_iff.1 (hN.old (by omega) e hb'.1)⟩⟩
    have hroll : rollF ns l j (st, ps) = (slotsF ns j).foldl (rollStep l j) (M, st, ps) := by rw [← hMM]; rfl
    have hslen := slotsF_len ns j
    have hmulb : (slotsF ns j).length ≤ 1048576 * 1048580 := Nat.le_trans hslen (Nat.mul_le_mul (by have := hG.len; omega) (by have := hN.len; omega))
    refine wpIn_rangeFunc_ownH (w0 := W2) (α := SlotD) (n := 3) rfl (by omega) (gf := 63) (lb := #[.pointer (some ⟨W.heap.size + 1, 0, none⟩), .pointer (some ⟨W.heap.size, 0, none⟩)]) rfl trivial (enters_of Tryz.func63 (by kernel_rfl) rfl)
      (slots_stops 2 (fun b => b = w.heap.size + 1 + 1 + 1 + 1 ∨ b = w.heap.size + 1 + 1) (w.heap.size + 1 + 1) W2 W.heap.size (W.heap.size + 1) j AG nG cG AN nN cN ns s0 s1 s2 s3 _ s6 s7 s8 hSA2 (by omega) (fun b e => by rcases e with e | e; omega; have := hrow2 b e; omega) (by omega) (by omega))
      (fun h k => Keep.trans h k) (fun W l o o' h1 h2 h3 h4 => keep_b (w := W2) (by omega) W l o o' h1 h2 h3 h4) (Below.refl _ _) (fun _ => rfl)
      (fun pre X => ∃ m s p A' c' L', RollI l j w0 W2 (w.heap.size + 1 + 1 + 1 + 1) (w.heap.size + 1 + 1) mb D (.slice A st.length c) st.length (M, st, ps) pre X m s p A' c' L')
      (fun cd pre X => cd = .exit 2 ∧ ∃ pre' x m s p A' c' L', pre = pre' ++ [x] ∧ RollI l j w0 W2 (w.heap.size + 1 + 1 + 1 + 1) (w.heap.size + 1 + 1) mb D (.slice A st.length c) st.length (M, st, ps) pre' X m s p A' c' L' ∧ m ≥ j.par)
      (fun pre X Y row hs hg hr => by obtain ⟨m, s, p, A', c', L', h⟩ := hs; exact ⟨m, s, p, A', c', L', h.turn hg hr (by omega) (by omega)⟩)
      (fun cd pre X Y row hs hg hr => by obtain ⟨e, pre', x, m, s, p, A', c', L', e2, h, h3⟩ := hs; exact ⟨e, pre', x, m, s, p, A', c', L', e2, h.turn hg hr (by omega) (by omega), h3⟩)
      ⟨M, st, ps, A, c, L, rfl, Ext.refl _ _, CM, C2, hst2, fun b e => .inl e, hm2, hL, hK2, by simp⟩
      (fun x a' X => ∃ Bx, W2.heap.size ≤ Bx ∧ Blk X Bx 86 #[.int .i64 x.group, .int .i64 x.index] ∧ a' = { tmps := #[.agg #[s0, s1, s2, s3, .slice AN nN cN, .slice AA nA cA, s6, s7, s8], .agg (JobV.cells (j, .slice AG nG cG)).toArray, .slice A st.length c, .map (some mb), .pointer (some ⟨w.heap.size, 0, none⟩), .pointer (some ⟨w.heap.size + 1, 0, none⟩), .pointer (some ⟨w.heap.size + 1 + 1, 0, none⟩), .pointer (some ⟨w.heap.size + 1 + 1 + 1, 0, none⟩), .slice none 0 0, .pointer (some ⟨w.heap.size + 1 + 1 + 1 + 1, 0, none⟩), undef, undef, .pointer (some ⟨Bx, 0, none⟩), undef, .agg #[s0, s1, s2, s3, .slice AN nN cN, .slice AA nA cA, s6, s7, s8], .agg (JobV.cells (j, .slice AG nG cG)).toArray, .func (.func 63) #[] #[.pointer (some ⟨w.heap.size + 1 + 1 + 1 + 1 + 1 + 1, 0, none⟩), .pointer (some ⟨w.heap.size + 1 + 1 + 1 + 1 + 1, 0, none⟩)], undef, undef, undef, undef, undef, undef, undef, undef, undef, undef, undef, undef, undef, undef, undef, undef, undef, undef, undef, undef, undef, undef, undef, undef, undef, undef, undef, undef, undef, undef, undef, undef, undef, undef, undef, undef, undef, undef, undef, undef, undef, undef, undef, undef, undef, undef, .agg #[s0, s1, s2, s3, .slice AN nN cN, .slice AA nA cA, s6, s7, s8], .agg (JobV.cells (j, .slice AG nG cG)).toArray, .func (.func 63) #[] #[.pointer (some ⟨W.heap.size + 1, 0, none⟩), .pointer (some ⟨W.heap.size, 0, none⟩)], .agg #[.int .i64 x.group, .int .i64 x.index], undef, undef, undef, undef, undef, undef, undef, undef, undef, undef, undef, undef, undef, undef, undef, undef, undef, undef, undef, undef, undef, undef, undef, undef, undef, undef, undef, undef, undef, undef, undef, undef, undef, undef, undef, undef, undef, undef, undef, undef, undef, undef, undef, undef, undef, undef, undef, undef, undef, undef, undef, undef], defers := [] })
      (fun x a' _ X Y row hs hg hr => by obtain ⟨Bx, h1, h2, h3⟩ := hs; exact ⟨Bx, h1, blk_turn h2 hg hr, h3⟩)
      ?assign2 ?body2 ?done2 ?stop2
    case assign2 =>
      rintro la pre x X K ⟨m, s, p, A', c', L', hR⟩ hKK
      simp only [slotE]
      gi_wp2
      have hXz := hR.ext.size
      exact hKK _ _ ((KeepsOthers.alloc _ _).from _) (Keep.of_ext0 (by (repeat' (first | (with_reducible assumption) | (with_reducible exact Ext.refl _ _) | (with_reducible refine Ext.alloc ?_ _) | (with_reducible refine Ext.drew ?_) | (with_reducible refine Ext.drewN ?_ _) | (with_reducible refine Ext.setCell ?_ (.inl (by simp only [World.size_alloc, World.size_setCell, World.size_drew] <;> omega)) _) | (with_reducible refine Ext.trans ?_ (by assumption) (fun _ _ e => e))))) (by omega)) ⟨m, s, p, A', c', L', hR.stay (by (repeat' (first | (with_reducible assumption) | (with_reducible exact Ext.refl _ _) | (with_reducible refine Ext.alloc ?_ _) | (with_reducible refine Ext.drew ?_) | (with_reducible refine Ext.drewN ?_ _) | (with_reducible refine Ext.setCell ?_ (.inl (by simp only [World.size_alloc, World.size_setCell, World.size_drew] <;> omega)) _) | (with_reducible refine Ext.trans ?_ (by assumption) (fun _ _ e => e)))))⟩ ⟨X.heap.size, hR.ext.size, Blk.new _ _ _, rfl⟩
    case body2 =>
      rintro la pre x a' X hl ⟨r, hr⟩ ⟨m, s, p, A', c', L', hR⟩ ⟨Bx, hBx, bX, rfl⟩ hlt
      clear hr r hl
      have hXz := hR.ext.size
      have hNS : ∀ b, w.heap.size ≤ b → b ≠ w.heap.size + 1 + 1 + 1 + 1 → b ≠ w.heap.size + 1 + 1 → ¬ (b = w.heap.size + 1 + 1 + 1 + 1 ∨ b = w.heap.size + 1 + 1 ∨ b = mb ∨ (Value.slice A st.length c).ownBlock = some b) := fun b hb n1 n2 => by
        rintro (e | e | e | e)
        · exact n1 e
        · exact n2 e
        · omega
        · have := own_lt hst e; omega
      have h0X : Ext Nothing w0 X := h02.trans hR.ext (fun b hb e => by
        rcases e with e | e | e | e
        · omega
        · omega
        · omega
        · have := own_ge hst e; omega)
      have k0 := C0.ext hR.ext (hNS _ (by omega) (by omega) (by omega))
      have k1 := C1.ext hR.ext (hNS _ (by omega) (by omega) (by omega))
      have k3 := C3.ext hR.ext (hNS _ (by omega) (by omega) (by omega))
      have slA := hA.ext0 h0X
      have e0 : X.cell? ⟨w.heap.size + 1, 0, none⟩ = some (.int .i64 j.id) := k1.cell 0
      have e3 : X.cell? ⟨w.heap.size + 1, 3, none⟩ = some (.int .i64 j.par) := k1.cell 3
      have x0 : X.cell? ⟨Bx, 0, none⟩ = some (.int .i64 x.group) := bX.cell 0
      have x1 : X.cell? ⟨Bx, 1, none⟩ = some (.int .i64 x.index) := bX.cell 1
      have cm0 : X.cell? ⟨w.heap.size + 1 + 1 + 1 + 1, 0, none⟩ = some (.int .i64 m) := hR.bm.cell 0
      have hfin : ∀ X', Ext Nothing X X' → rollStep l j (m, s, p) x = (m, s, p) → KeepsFrom W2.heap.size X X' ∧ Keep (fun b => b = w.heap.size + 1 + 1 + 1 + 1 ∨ b = w.heap.size + 1 + 1) (w.heap.size + 1 + 1) X X' ∧ ∃ m s p A' c' L', RollI l j w0 W2 (w.heap.size + 1 + 1 + 1 + 1) (w.heap.size + 1 + 1) mb D (.slice A st.length c) st.length (M, st, ps) (pre ++ [x]) X' m s p A' c' L' := fun X' hE hs =>
        ⟨hE.keepsFrom (fun b hb e => e.elim), Keep.of_ext0 hE (by omega), m, s, p, A', c', L', hR.same hE hs⟩
      by_cases hge : m ≥ j.par
      · gi_wp2
        exact ⟨KeepsFrom.refl _ _, rfl, pre, x, m, s, p, A', c', L', rfl, hR, hge⟩
      · rcases idx_cases (slotB j.id x.group x.index) l with ⟨hp, _, _⟩ | ⟨i, a, hp, ha, _, _, _⟩
        · have HB := Lib.hid (show rollStep l j (m, s, p) x = (m, s, p) by unfold rollStep; rw [if_neg (by simpa using hge)]; simp [holdI, hp])
          have HP := Lib.hid hp
          clear hp
          gi_wp2_with (first | (refine wpListIn_load_blk rfl 29 _ rfl STStore w.heap.size rfl #[s0, s1, s2, s3, .slice AN nN cN, .slice AA nA cA, s6, s7, s8] k0 rfl ?_) | ((first | refine ⟨trivial, fun hd => Bool.noConfusion hd, ?_⟩ | refine ⟨trivial, ?_⟩); gi_at_call 52; refine (CallsIn.inRound la (callsIn_wide.2 (findSlot _ nA cA l _ _ _ _ slA (by omega) s0 s1 s2 s3 _ s6 s7 s8))).mono ?_; rintro e Y ⟨rfl, hxY⟩; rw [HP.out]; skip))
          (refine wpIn_region_quiet_lit (by kernel_rfl) (by kernel_rfl) (by kernel_rfl) ?_; (repeat (first | go_big_quiet_skip | (go_big_quiet_want; go_big_quiet_op; go_big_quiet_on))); refine wpQuiet_nil ?_; intro wq hwq; obtain ⟨nq, hwq⟩ := hwq; subst hwq)
          gi_wp2
          exact hfin _ (Ext.drewN hxY _) HB.out
        · have hil : i < l.length := (List.getElem?_eq_some_iff.1 ha).1
          have hin : i < nA := by have := hA.len; omega
          have hi0 : ¬ ((i : Int) < 0) := by omega
          have hi1 : decide ((i : Int) < 0) = false := by simp
          obtain ⟨_, b, off, rfl, hce⟩ := hA.get h0X hin
          rw [(List.getElem?_eq_some_iff.1 ha).2] at hce
          cases hc : p.contains (i : Int) with
          | true =>
            have HB := Lib.hid (show rollStep l j (m, s, p) x = (m, s, p) by unfold rollStep; rw [if_neg (by simpa using hge)]; simp only [holdI, hp, ha, Int.toNat_natCast, hc]; simp)
            have HP := Lib.hid hp
            have HC := Lib.hid hc
            clear hp ha hc
            gi_wp2_with (first | (refine wpListIn_load_blk rfl 29 _ rfl STStore w.heap.size rfl #[s0, s1, s2, s3, .slice AN nN cN, .slice (some ⟨b, off, none⟩) nA cA, s6, s7, s8] k0 rfl ?_) | ((first | refine ⟨trivial, fun hd => Bool.noConfusion hd, ?_⟩ | refine ⟨trivial, ?_⟩); gi_at_call 52; refine (CallsIn.inRound la (callsIn_wide.2 (findSlot _ nA cA l _ _ _ _ slA (by omega) s0 s1 s2 s3 _ s6 s7 s8))).mono ?_; rintro e Y ⟨rfl, hxY⟩; rw [HP.out]; have cm : Y.cell? ⟨w.heap.size + 1 + 1 + 1, 0, none⟩ = some (.map (some mb)) := (k3.ext hxY (fun e => e)).cell 0; have cs : Y.cell? ⟨w.heap.size, 5, none⟩ = some (.slice (some ⟨b, off, none⟩) nA cA) := (k0.ext hxY (fun e => e)).cell 5; have cv : Y.cell? ⟨w.heap.size + 1, 5, none⟩ = some (.int .i64 j.ver) := (k1.ext hxY (fun e => e)).cell 5; have lk : ∀ q, (Instr.lookup 122 (.map (some mb)) (.int .i64 (i : Int)) false).run Tryz.prog (Y.drewN q) = .ok (.bool true) (Y.drewN q) := fun q => (by rw [look_int (hR.mp.ext (S := Nothing) (Ext.drewN hxY q) (fun e => e)) i (by omega), hR.mpL, HC.out]); have a9 : Y.cell? ⟨b, off + i * 11 + 9, none⟩ = some (.bool a.stop) := hxY.cell (hce 9 _ rfl) (fun e => e); have a2 : Y.cell? ⟨b, off + i * 11 + 2, none⟩ = some (.int .i64 a.ver) := hxY.cell (hce 2 _ rfl) (fun e => e); have a0 : Y.cell? ⟨b, off + i * 11, none⟩ = some (.int .i64 a.id) := hxY.cell (hce 0 _ rfl) (fun e => e); skip))
            (refine wpIn_region_quiet_lit (by kernel_rfl) (by kernel_rfl) (by kernel_rfl) ?_; (repeat (first | go_big_quiet_skip | (go_big_quiet_want; go_big_quiet_op; go_big_quiet_on))); refine wpQuiet_nil ?_; intro wq hwq; obtain ⟨nq, hwq⟩ := hwq; subst hwq)
            gi_wp2
            exact hfin _ (Ext.drewN hxY _) HB.out
          | false =>
            cases hs : a.stop with
            | true =>
              have HB := Lib.hid (show rollStep l j (m, s, p) x = (m, s, p) by unfold rollStep; rw [if_neg (by simpa using hge)]; simp only [holdI, hp, ha, Int.toNat_natCast, hc, hs]; simp)
              have HP := Lib.hid hp
              have HC := Lib.hid hc
              have HS := Lib.hid hs
              clear hp ha hc hs
              gi_wp2_with (first | (refine wpListIn_load_blk rfl 29 _ rfl STStore w.heap.size rfl #[s0, s1, s2, s3, .slice AN nN cN, .slice (some ⟨b, off, none⟩) nA cA, s6, s7, s8] k0 rfl ?_) | ((first | refine ⟨trivial, fun hd => Bool.noConfusion hd, ?_⟩ | refine ⟨trivial, ?_⟩); gi_at_call 52; refine (CallsIn.inRound la (callsIn_wide.2 (findSlot _ nA cA l _ _ _ _ slA (by omega) s0 s1 s2 s3 _ s6 s7 s8))).mono ?_; rintro e Y ⟨rfl, hxY⟩; rw [HP.out]; have cm : Y.cell? ⟨w.heap.size + 1 + 1 + 1, 0, none⟩ = some (.map (some mb)) := (k3.ext hxY (fun e => e)).cell 0; have cs : Y.cell? ⟨w.heap.size, 5, none⟩ = some (.slice (some ⟨b, off, none⟩) nA cA) := (k0.ext hxY (fun e => e)).cell 5; have cv : Y.cell? ⟨w.heap.size + 1, 5, none⟩ = some (.int .i64 j.ver) := (k1.ext hxY (fun e => e)).cell 5; have lk : ∀ q, (Instr.lookup 122 (.map (some mb)) (.int .i64 (i : Int)) false).run Tryz.prog (Y.drewN q) = .ok (.bool false) (Y.drewN q) := fun q => (by rw [look_int (hR.mp.ext (S := Nothing) (Ext.drewN hxY q) (fun e => e)) i (by omega), hR.mpL, HC.out]); have a9 : Y.cell? ⟨b, off + i * 11 + 9, none⟩ = some (.bool a.stop) := hxY.cell (hce 9 _ rfl) (fun e => e); have a2 : Y.cell? ⟨b, off + i * 11 + 2, none⟩ = some (.int .i64 a.ver) := hxY.cell (hce 2 _ rfl) (fun e => e); have a0 : Y.cell? ⟨b, off + i * 11, none⟩ = some (.int .i64 a.id) := hxY.cell (hce 0 _ rfl) (fun e => e); rw [HS.out] at a9))
              (refine wpIn_region_quiet_lit (by kernel_rfl) (by kernel_rfl) (by kernel_rfl) ?_; (repeat (first | go_big_quiet_skip | (go_big_quiet_want; go_big_quiet_op; go_big_quiet_on))); refine wpQuiet_nil ?_; intro wq hwq; obtain ⟨nq, hwq⟩ := hwq; subst hwq)
              gi_wp2
              exact hfin _ (Ext.drewN hxY _) HB.out
            | false =>
              cases hv : (a.ver == j.ver) with
              | true =>
                have HB := Lib.hid (show rollStep l j (m, s, p) x = (m, s, p) by unfold rollStep; rw [if_neg (by simpa using hge)]; simp only [holdI, hp, ha, Int.toNat_natCast, hc, hs, hv]; simp)
                have HP := Lib.hid hp
                have HC := Lib.hid hc
                have HS := Lib.hid hs
                have HV := Lib.hid hv
                clear hp ha hc hs hv
                gi_wp2_with (first | (refine wpListIn_load_blk rfl 29 _ rfl STStore w.heap.size rfl #[s0, s1, s2, s3, .slice AN nN cN, .slice (some ⟨b, off, none⟩) nA cA, s6, s7, s8] k0 rfl ?_) | ((first | refine ⟨trivial, fun hd => Bool.noConfusion hd, ?_⟩ | refine ⟨trivial, ?_⟩); gi_at_call 52; refine (CallsIn.inRound la (callsIn_wide.2 (findSlot _ nA cA l _ _ _ _ slA (by omega) s0 s1 s2 s3 _ s6 s7 s8))).mono ?_; rintro e Y ⟨rfl, hxY⟩; rw [HP.out]; have cm : Y.cell? ⟨w.heap.size + 1 + 1 + 1, 0, none⟩ = some (.map (some mb)) := (k3.ext hxY (fun e => e)).cell 0; have cs : Y.cell? ⟨w.heap.size, 5, none⟩ = some (.slice (some ⟨b, off, none⟩) nA cA) := (k0.ext hxY (fun e => e)).cell 5; have cv : Y.cell? ⟨w.heap.size + 1, 5, none⟩ = some (.int .i64 j.ver) := (k1.ext hxY (fun e => e)).cell 5; have lk : ∀ q, (Instr.lookup 122 (.map (some mb)) (.int .i64 (i : Int)) false).run Tryz.prog (Y.drewN q) = .ok (.bool false) (Y.drewN q) := fun q => (by rw [look_int (hR.mp.ext (S := Nothing) (Ext.drewN hxY q) (fun e => e)) i (by omega), hR.mpL, HC.out]); have a9 : Y.cell? ⟨b, off + i * 11 + 9, none⟩ = some (.bool a.stop) := hxY.cell (hce 9 _ rfl) (fun e => e); have a2 : Y.cell? ⟨b, off + i * 11 + 2, none⟩ = some (.int .i64 a.ver) := hxY.cell (hce 2 _ rfl) (fun e => e); have a0 : Y.cell? ⟨b, off + i * 11, none⟩ = some (.int .i64 a.id) := hxY.cell (hce 0 _ rfl) (fun e => e); rw [HS.out] at a9; rw [show a.ver = j.ver from (by simpa using HV.out)] at a2))
                (refine wpIn_region_quiet_lit (by kernel_rfl) (by kernel_rfl) (by kernel_rfl) ?_; (repeat (first | go_big_quiet_skip | (go_big_quiet_want; go_big_quiet_op; go_big_quiet_on))); refine wpQuiet_nil ?_; intro wq hwq; obtain ⟨nq, hwq⟩ := hwq; subst hwq)
                gi_wp2
                exact hfin _ (Ext.drewN hxY _) HB.out
              | false =>
                have HB := Lib.hid (show rollStep l j (m, s, p) x = (wrap64 (m + 1), s ++ [a.id], p ++ [(i : Int)]) by unfold rollStep; rw [if_neg (by simpa using hge)]; simp only [holdI, hp, ha, Int.toNat_natCast, hc, hs, hv]; simp)
                have HP := Lib.hid hp
                have HC := Lib.hid hc
                have HS := Lib.hid hs
                clear hp ha hc hs
                gi_wp2_with (first | (refine wpListIn_load_blk rfl 29 _ rfl STStore w.heap.size rfl #[s0, s1, s2, s3, .slice AN nN cN, .slice (some ⟨b, off, none⟩) nA cA, s6, s7, s8] k0 rfl ?_) | ((first | refine ⟨trivial, fun hd => Bool.noConfusion hd, ?_⟩ | refine ⟨trivial, ?_⟩); gi_at_call 52; refine (CallsIn.inRound la (callsIn_wide.2 (findSlot _ nA cA l _ _ _ _ slA (by omega) s0 s1 s2 s3 _ s6 s7 s8))).mono ?_; rintro e Y ⟨rfl, hxY⟩; rw [HP.out]; have cm : Y.cell? ⟨w.heap.size + 1 + 1 + 1, 0, none⟩ = some (.map (some mb)) := (k3.ext hxY (fun e => e)).cell 0; have cs : Y.cell? ⟨w.heap.size, 5, none⟩ = some (.slice (some ⟨b, off, none⟩) nA cA) := (k0.ext hxY (fun e => e)).cell 5; have cv : Y.cell? ⟨w.heap.size + 1, 5, none⟩ = some (.int .i64 j.ver) := (k1.ext hxY (fun e => e)).cell 5; have lk : ∀ q, (Instr.lookup 122 (.map (some mb)) (.int .i64 (i : Int)) false).run Tryz.prog (Y.drewN q) = .ok (.bool false) (Y.drewN q) := fun q => (by rw [look_int (hR.mp.ext (S := Nothing) (Ext.drewN hxY q) (fun e => e)) i (by omega), hR.mpL, HC.out]); have a9 : Y.cell? ⟨b, off + i * 11 + 9, none⟩ = some (.bool a.stop) := hxY.cell (hce 9 _ rfl) (fun e => e); have a2 : Y.cell? ⟨b, off + i * 11 + 2, none⟩ = some (.int .i64 a.ver) := hxY.cell (hce 2 _ rfl) (fun e => e); have a0 : Y.cell? ⟨b, off + i * 11, none⟩ = some (.int .i64 a.id) := hxY.cell (hce 0 _ rfl) (fun e => e); rw [HS.out] at a9))
                (refine wpIn_region_quiet_lit (by kernel_rfl) (by kernel_rfl) (by kernel_rfl) ?_; (repeat (first | go_big_quiet_skip | (go_big_quiet_want; go_big_quiet_op; go_big_quiet_on))); refine wpQuiet_nil ?_; intro wq hwq; obtain ⟨nq, hwq⟩ := hwq; subst hwq)
                gi_wp2
                obtain ⟨Z0, hZ0⟩ : ∃ Z0, Y.drewN nq = Z0 := ⟨_, rfl⟩
                have hxZ : Ext Nothing X Z0 := by rw [← hZ0]; exact Ext.drewN hxY _
                rw [hZ0]
                clear hZ0
                have hxT : Ext Nothing X (Z0.drew.alloc (.cells #[.int .i64 a.id] 3)) := by (repeat' (first | (with_reducible assumption) | (with_reducible exact Ext.refl _ _) | (with_reducible refine Ext.alloc ?_ _) | (with_reducible refine Ext.drew ?_) | (with_reducible refine Ext.drewN ?_ _) | (with_reducible refine Ext.setCell ?_ (.inl (by simp only [World.size_alloc, World.size_setCell, World.size_drew] <;> omega)) _) | (with_reducible refine Ext.trans ?_ (by assumption) (fun _ _ e => e))))
                obtain ⟨ht, iI, zI, hi, hz, hzs, hsz, h0, hle, hby⟩ := SLint
                have hb8 : iI.bytes = 8 := by have := BYint; rw [hi] at this; simpa using this
                have hZs := hxZ.size
                have hzT : (Z0.drew.alloc (.cells #[.int .i64 a.id] 3)).heap.size = Z0.heap.size + 1 := by simp
                obtain ⟨T, hT⟩ : ∃ T, Z0.drew.alloc (.cells #[.int .i64 a.id] 3) = T := ⟨_, rfl⟩
                have hTb : Blk T Z0.heap.size 3 #[.int .i64 a.id] := by rw [← hT]; exact Blk.new' Z0.drew _ _ (by simp)
                rw [hT] at hxT hzT
                obtain ⟨v', w5, hrun, hown5, hgr5, _, hloc5⟩ := run_append_own_at (P := Tryz.prog) (w := T) w0.heap.size 81 81 3 iI zI 1 8 ht hi hz hsz hb8 hzs h0 (.slice A' s.length c') s.length (s.flatMap intC) (own_ext hR.own hxT (fun _ _ e => e)) ⟨Z0.heap.size, 0, none⟩ 1 1 [.int .i64 a.id] rfl
                  (fun j u hu => by
                    have hadd : (⟨Z0.heap.size, 0, none⟩ : Addr).add j = ⟨Z0.heap.size, j, none⟩ := by unfold Addr.add; split <;> simp_all
                    rw [hadd, hTb.cell]; simpa using hu)
                  (fun u hu => by simp at hu; subst hu; rfl) (by have := hR.len; unfold maxLen; omega) (by have := hR.len; omega) (by have := h0X.size; omega)
                obtain ⟨A5, c5, rfl⟩ := own_slice hown5
                have hnr : (Value.slice A' s.length c').ownBlock ≠ some (w.heap.size + 1 + 1) := fun e => by rcases hR.loc _ e with e | e; (have := own_lt hst e; omega); omega
                have b5 : Blk w5 (w.heap.size + 1 + 1) 81 #[.slice A' s.length c'] := ((hR.bs.ext hxT (fun e => e)).ext (Ext.of_grown hgr5 (S := fun b => (Value.slice A' s.length c').ownBlock = some b) (fun g e => e)) hnr)
                have hi2 : (i : Int) < nA := by omega
                have hi3 : (0 : Int) ≤ i := by omega
                have hsl1 : (Instr.buildSlice 81 1 #[(0, Value.int .i64 a.id)]).run Tryz.prog Z0.drew = .ok (.slice (some ⟨Z0.heap.size, 0, none⟩) 1 1) T := by
                  have h1 := run_slice1 (P := Tryz.prog) ht hi hz (by rw [hzs, hsz]) (by omega) (by omega) (.int .i64 a.id) (by rw [hsz]; rfl) Z0.drew
                  rw [show (Value.int .i64 a.id).cells = #[.int .i64 a.id] from rfl, hT] at h1
                  exact h1
                have hx5 : Ext (fun b => (Value.slice A' s.length c').ownBlock = some b) X w5 := (hxT.mono (fun _ _ e => e.elim)).grown hgr5 (fun g e => .inr e)
                have hlo : ∀ g, (Value.slice A' s.length c').ownBlock = some g → g < w.heap.size ∨ W2.heap.size ≤ g := fun g e => by
                  rcases hR.loc g e with e | e
                  · exact .inl (own_lt hst e)
                  · exact .inr e
                have hS : Z0.drew.cell? ⟨w.heap.size, 5, none⟩ = some (.slice (some ⟨b, off, none⟩) nA cA) ∧ Z0.drew.cell? ⟨b, off + i * 11, none⟩ = some (.int .i64 a.id) := ⟨(k0.ext (hxZ.drew) (fun e => e)).cell 5, (hxZ.drew).cell (hce 0 _ rfl) (fun e => e)⟩
                have hST : T.cell? ⟨w.heap.size, 5, none⟩ = some (.slice (some ⟨b, off, none⟩) nA cA) ∧ T.cell? ⟨b, off + i * 11, none⟩ = some (.int .i64 a.id) := ⟨(k0.ext hxT (fun e => e)).cell 5, hxT.cell (hce 0 _ rfl) (fun e => e)⟩
                have hbb : b < w0.heap.size := by
                  obtain ⟨_, b2, off2, e, hc2⟩ := hA.get (Ext.refl _ _) hin
                  cases e
                  exact World.block_lt_of_cell? w0 _ (by have := hc2 0 (.int .i64 l[i].id) rfl; exact this)
                have hbo : ∀ g, (Value.slice A' s.length c').ownBlock = some g → w0.heap.size ≤ g := fun g e => own_ge hR.own e
                have hS5 : w5.cell? ⟨w.heap.size, 5, none⟩ = some (.slice (some ⟨b, off, none⟩) nA cA) ∧ w5.cell? ⟨b, off + i * 11, none⟩ = some (.int .i64 a.id) := ⟨(k0.ext hx5 (fun e => by have := hlo _ e; omega)).cell 5, hx5.cell (hce 0 _ rfl) (fun e => by have e2 : w0.heap.size ≤ b := hbo _ e; omega)⟩
                have c60 : Z0.drew.cell? ⟨w.heap.size + 1 + 1, 0, none⟩ = some (.slice A' s.length c') := (hR.bs.ext (hxZ.drew) (fun e => e)).cell 0
                have c6T : T.cell? ⟨w.heap.size + 1 + 1, 0, none⟩ = some (.slice A' s.length c') := (hR.bs.ext hxT (fun e => e)).cell 0
                have c50 : w5.cell? ⟨w.heap.size + 1 + 1, 0, none⟩ = some (.slice A' s.length c') := b5.cell 0
                have f50 : w5.frozen? ⟨w.heap.size + 1 + 1, 0, none⟩ = false := b5.frozen 0
                have hx6 : Ext (fun b => b = w.heap.size + 1 + 1 ∨ (Value.slice A' s.length c').ownBlock = some b) X (w5.setCell ⟨w.heap.size + 1 + 1, 0, none⟩ (.slice A5 (s.length + 1) c5)) := (hx5.mono (fun _ _ e => .inr e)).setCell (.inr (.inl rfl)) _
                have b6 := b5.set_ 0 (.slice A5 (s.length + 1) c5)
                have hS6 : (w5.setCell ⟨w.heap.size + 1 + 1, 0, none⟩ (.slice A5 (s.length + 1) c5)).cell? ⟨w.heap.size, 5, none⟩ = some (.slice (some ⟨b, off, none⟩) nA cA) ∧ (w5.setCell ⟨w.heap.size + 1 + 1, 0, none⟩ (.slice A5 (s.length + 1) c5)).cell? ⟨b, off + i * 11, none⟩ = some (.int .i64 a.id) := ⟨(k0.ext hx6 (fun e => by rcases e with e | e; omega; (have := hlo _ e; omega))).cell 5, hx6.cell (hce 0 _ rfl) (fun e => by
                  rcases e with e | e
                  · have e2 : b = w.heap.size + 1 + 1 := e; omega
                  · have e2 : w0.heap.size ≤ b := hbo _ e; omega)⟩
                have hx56 : Ext (fun b => b = w.heap.size + 1 + 1) w5 (w5.setCell ⟨w.heap.size + 1 + 1, 0, none⟩ (.slice A5 (s.length + 1) c5)) := Ext.set1 _ _ _ _
                have own6 := own_ext hown5 hx56 (fun g hg e => by subst e; exact own_ne hown5 b5 (by decide) hg)
                obtain ⟨w6, hw6⟩ : ∃ w6, w5.setCell ⟨w.heap.size + 1 + 1, 0, none⟩ (.slice A5 (s.length + 1) c5) = w6 := ⟨_, rfl⟩
                have hst6 : (Instr.storeAt 81 (.pointer (some ⟨w.heap.size + 1 + 1, 0, none⟩)) (.slice A5 (s.length + 1) c5)).run Tryz.prog w5 = .ok () w6 := by
                  rw [← hw6]
                  go_simp
                rw [hw6] at hS6 hx6 b6 hx56 own6
                have k36 : w6.cell? ⟨w.heap.size + 1 + 1 + 1, 0, none⟩ = some (.map (some mb)) := (k3.ext hx6 (fun e => by rcases e with e | e; omega; (have := hlo _ e; omega))).cell 0
                have m6 := hR.mp.ext hx6 (fun e => by rcases e with e | e; omega; exact own_ne_map hR.own hR.mp e)
                have bm6 := hR.bm.ext hx6 (fun e => by rcases e with e | e; omega; (have := hlo _ e; omega))
                have loc5 : ∀ g, (Value.slice A5 (s.length + 1) c5).ownBlock = some g → (Value.slice A' s.length c').ownBlock = some g ∨ X.heap.size ≤ g := fun g e => by
                  rcases hloc5 with h | h
                  · exact .inl (by rw [← h]; exact e)
                  · rw [h] at e; cases e; exact .inr (by omega)
                refine wpIn_normal ?_
                refine wpIn_region_held (S := fun W' => W'.cell? ⟨w.heap.size, 5, none⟩ = some (.slice (some ⟨b, off, none⟩) nA cA) ∧ W'.cell? ⟨b, off + i * 11, none⟩ = some (.int .i64 a.id)) (by kernel_rfl) (by kernel_rfl) (by rintro ⟨_, _, h, _⟩; cases h) ?_
                refine wpAnyH_take (i := 1) (v := .pointer (some ⟨w.heap.size, 5, none⟩)) rfl (by kernel_rfl) (by kernel_rfl) (by kernel_rfl) (fun _ _ _ h => absurd h.1 (by simp)) (.inl ⟨by rfl, ?_⟩) hS ?_
                · rintro W' ⟨h2, h3⟩
                  go_simp
                refine wpAnyH_take (i := 2) (v := .slice (some ⟨b, off, none⟩) nA cA) rfl (by kernel_rfl) (by kernel_rfl) (by kernel_rfl) (fun _ _ _ h => absurd h.1 (by simp)) (.inl ⟨by rfl, ?_⟩) hS ?_
                · rintro W' ⟨h2, h3⟩
                  go_simp
                refine wpAnyH_take (i := 3) (v := .int .i64 (i : Int)) rfl (by kernel_rfl) (by kernel_rfl) (by kernel_rfl) (fun _ _ _ h => absurd h.1 (by simp)) (.inl ⟨by rfl, ?_⟩) hS ?_
                · rintro W' ⟨h2, h3⟩
                  go_simp
                refine wpAnyH_take (i := 4) (v := .pointer (some ⟨b, off + i * 11, none⟩)) rfl (by kernel_rfl) (by kernel_rfl) (by kernel_rfl) (fun _ _ _ h => absurd h.1 (by simp)) (.inl ⟨by rfl, ?_⟩) hS ?_
                · rintro W' ⟨h2, h3⟩
                  go_simp
                refine wpAnyH_take (i := 5) (v := .pointer (some ⟨b, off + i * 11, none⟩)) rfl (by kernel_rfl) (by kernel_rfl) (by kernel_rfl) (fun _ _ _ h => absurd h.1 (by simp)) (.inl ⟨by rfl, ?_⟩) hS ?_
                · rintro W' ⟨h2, h3⟩
                  go_simp
                refine wpAnyH_take (i := 6) (v := .int .i64 a.id) rfl (by kernel_rfl) (by kernel_rfl) (by kernel_rfl) (fun _ _ _ h => absurd h.1 (by simp)) (.inl ⟨by rfl, ?_⟩) hS ?_
                · rintro W' ⟨h2, h3⟩
                  go_simp
                refine wpAnyH_all (rs := [0, 7]) (by kernel_rfl) (by simp) (List.forall_mem_cons.2 ⟨?w0, List.forall_mem_cons.2 ⟨?w7, fun _ h => absurd h (by simp)⟩⟩)
                refine wpOp_val (v := .slice A' s.length c') (w' := Z0.drew) rfl (by rfl) ?_ ⟨hS, ?_⟩
                · go_simp
                refine wpAnyH_all (rs := [7]) (by kernel_rfl) (by simp) (List.forall_mem_cons.2 ⟨?_, fun _ h => absurd h (by simp)⟩)
                refine wpOp_val (v := .slice (some ⟨Z0.heap.size, 0, none⟩) 1 1) (w' := T) rfl (by rfl) ?_ ⟨hST, ?_⟩
                · go_simp
                simp only [Act.put, List.setIfInBounds_toArray, List.set_cons_succ, List.set_cons_zero]
                refine wpAnyH_all (rs := [8]) (by kernel_rfl) (by simp) (List.forall_mem_cons.2 ⟨?_, fun _ h => absurd h (by simp)⟩)
                refine wpOp_val (v := .slice A5 (s.length + 1) c5) (w' := w5) rfl (by rfl) ?_ ⟨hS5, ?_⟩
                · exact run_app_op (t := 81) (ty := 81) (v := .slice A' s.length c') (u := .slice (some ⟨Z0.heap.size, 0, none⟩) 1 1) (s := .tmp 105) (x := .tmp 112) (by rfl) (by rfl) (by go_simp) (by go_simp) hrun
                simp only [Act.put, List.setIfInBounds_toArray, List.set_cons_succ, List.set_cons_zero]
                refine wpAnyH_all (rs := [9]) (by kernel_rfl) (by simp) (List.forall_mem_cons.2 ⟨?_, fun _ h => absurd h (by simp)⟩)
                refine wpOp_none (w' := w6) rfl (by rfl) ?_ ⟨hS6, ?_⟩
                · go_simp
                simp only [Act.put, List.setIfInBounds_toArray, List.set_cons_succ, List.set_cons_zero]
                refine wpAnyH_done (by kernel_rfl) ⟨rfl, ?_⟩ _
                rotate_left
                refine wpOp_val (v := .slice (some ⟨Z0.heap.size, 0, none⟩) 1 1) (w' := T) rfl (by rfl) ?_ ⟨hST, ?_⟩
                · go_simp
                refine wpAnyH_all (rs := [0]) (by kernel_rfl) (by simp) (List.forall_mem_cons.2 ⟨?_, fun _ h => absurd h (by simp)⟩)
                refine wpOp_val (v := .slice A' s.length c') (w' := T) rfl (by rfl) ?_ ⟨hST, ?_⟩
                · go_simp
                simp only [Act.put, List.setIfInBounds_toArray, List.set_cons_succ, List.set_cons_zero]
                refine wpAnyH_all (rs := [8]) (by kernel_rfl) (by simp) (List.forall_mem_cons.2 ⟨?_, fun _ h => absurd h (by simp)⟩)
                refine wpOp_val (v := .slice A5 (s.length + 1) c5) (w' := w5) rfl (by rfl) ?_ ⟨hS5, ?_⟩
                · exact run_app_op (t := 81) (ty := 81) (v := .slice A' s.length c') (u := .slice (some ⟨Z0.heap.size, 0, none⟩) 1 1) (s := .tmp 105) (x := .tmp 112) (by rfl) (by rfl) (by go_simp) (by go_simp) hrun
                simp only [Act.put, List.setIfInBounds_toArray, List.set_cons_succ, List.set_cons_zero]
                refine wpAnyH_all (rs := [9]) (by kernel_rfl) (by simp) (List.forall_mem_cons.2 ⟨?_, fun _ h => absurd h (by simp)⟩)
                refine wpOp_none (w' := w6) rfl (by rfl) ?_ ⟨hS6, ?_⟩
                · go_simp
                simp only [Act.put, List.setIfInBounds_toArray, List.set_cons_succ, List.set_cons_zero]
                refine wpAnyH_done (by kernel_rfl) ⟨rfl, ?_⟩ _
                all_goals (
                  gi_wp2_with (refine wpListIn_put rfl _ _ _ 122 4 rfl KLint inj_int ULmib m6 rfl (i : Int) rfl true rfl (Maps.keyOf_int_mk ULint (wf_small i (by omega))) ?_; intro w7 m7 hg7; have hx7 : Ext (fun b => b = mb) w6 w7 := Ext.of_grown hg7 (fun g e => (by cases e; rfl)); have bm7 := bm6.ext hx7 (by omega); have c7 : w7.cell? ⟨w.heap.size + 1 + 1 + 1 + 1, 0, none⟩ = some (.int .i64 m) := bm7.cell 0; have f7 : w7.frozen? ⟨w.heap.size + 1 + 1 + 1 + 1, 0, none⟩ = false := bm7.frozen 0)
                  have hx8 : Ext (fun b => b = w.heap.size + 1 + 1 ∨ (Value.slice A' s.length c').ownBlock = some b ∨ b = mb ∨ b = w.heap.size + 1 + 1 + 1 + 1) X (w7.setCell ⟨w.heap.size + 1 + 1 + 1 + 1, 0, none⟩ (.int .i64 (wrap64 (m + 1)))) := (Ext.trans (hx6.mono (S' := fun b => b = w.heap.size + 1 + 1 ∨ (Value.slice A' s.length c').ownBlock = some b ∨ b = mb ∨ b = w.heap.size + 1 + 1 + 1 + 1) (fun _ _ e => e.elim .inl (fun e => .inr (.inl e)))) hx7 (fun b _ e => .inr (.inr (.inl e)))).setCell (.inr (.inr (.inr (.inr rfl)))) _
                  have b8 := (b6.ext hx7 (by omega)).ext (Ext.set1 w7 (w.heap.size + 1 + 1 + 1 + 1) 0 (.int .i64 (wrap64 (m + 1)))) (by omega)
                  have own8 := own_ext (own_ext own6 hx7 (fun g hg e => by subst e; exact own_ne_map own6 m6 hg)) (Ext.set1 w7 (w.heap.size + 1 + 1 + 1 + 1) 0 (.int .i64 (wrap64 (m + 1)))) (fun g hg e => by
                    subst e
                    rcases loc5 _ hg with h | h
                    · have := hlo _ h; omega
                    · omega)
                  have bm8 := bm7.set_ 0 (.int .i64 (wrap64 (m + 1)))
                  have m8 := m7.ext (Ext.set1 w7 (w.heap.size + 1 + 1 + 1 + 1) 0 (.int .i64 (wrap64 (m + 1)))) (by omega)
                  have dd8 := hx8.heap hR.dd (fun e => by
                    rcases e with e | e | e | e
                    · omega
                    · have := own_cells hR.own e hR.dd; cases this
                    · omega
                    · omega)
                  have hl1 : (s ++ [a.id]).length = s.length + 1 := by simp
                  have hf1 : (s ++ [a.id]).flatMap intC = s.flatMap intC ++ [.int .i64 a.id] := by rw [List.flatMap_append]; rfl
                  have hX8 := hx8.size
                  have hz7 := hx7.size
                  have hz6 := hx56.size
                  refine ⟨hx8.keepsFrom (fun b hb e o ho => ?_), Keep.of_ext_row hx8 (fun b hb e => ?_) (fun b e => ?_), wrap64 (m + 1), s ++ [a.id], p ++ [(i : Int)], A5, c5, aput (i : Int) true L', ⟨by rw [List.foldl_append, hR.fold]; exact HB.out, hR.ext.trans hx8 (fun b hb e => ?_), bm8, by rw [hl1]; exact b8, by rw [hl1, hf1]; exact own8, fun b e => ?_, m8, aget_contains _ _ _ hR.mpL, dd8, by rw [hl1, List.length_append]; have := hR.len; simp only [List.length_cons, List.length_nil]; omega⟩⟩
                  · rcases e with e | e | e | e
                    · omega
                    · exact own_cells hR.own e ho
                    · omega
                    · omega
                  · rcases e with e | e | e | e
                    · exact .inl (.inr e)
                    · exact .inr (.inl ⟨_, hR.bs.cell 0, e⟩)
                    · subst e; exact .inr (.inr (fun o ho => map_no_cells hR.mp ho))
                    · exact .inl (.inl e)
                  · obtain ⟨v, hv, hvb⟩ := e
                    rw [b8.cell 0] at hv
                    cases hv
                    rcases loc5 _ hvb with h | h
                    · exact .inl ⟨_, hR.bs.cell 0, h⟩
                    · have hl8 := own_lt own8 hvb
                      exact .inr ⟨h, hl8⟩
                  · rcases e with e | e | e | e
                    · exact .inr (.inl e)
                    · rcases hR.loc _ e with h | h
                      · exact .inr (.inr (.inr h))
                      · omega
                    · exact .inr (.inr (.inl e))
                    · exact .inl e
                  · rw [hl1] at e
                    rcases loc5 _ e with h | h
                    · exact hR.loc _ h
                    · exact .inr (by omega))

    case done2 =>
      rintro D2 xs X hD2 rfl ⟨m, s, p, A', c', L', hR⟩ hK3
      have hXz := hR.ext.size
      have cs0 : X.cell? ⟨w.heap.size + 1 + 1, 0, none⟩ = some (.slice A' s.length c') := hR.bs.cell 0
      gi_wp2
      refine ⟨by simp, .inl ⟨_, _, rfl, run_takeDeferred hK3, ?_⟩⟩
      refine ⟨by simp, .inl ⟨_, _, rfl, run_takeDeferred ((World.putObj_heap_other (by omega)).trans hR.dd), ?_⟩⟩
      have g1 := own_turn (B := 0) hR.own (grownBy_putObj' X D2 (.deferred none)) (fun r e => by cases e; exact ⟨Nat.zero_le _, _, hK3, rfl⟩)
      have dd' : (X.putObj D2 (.deferred none)).heap[D]? = some (.deferred (some [])) := (World.putObj_heap_other (by omega)).trans hR.dd
      have g2 := own_turn (B := 0) g1 (grownBy_putObj' _ D (.deferred none)) (fun r e => by cases e; exact ⟨Nat.zero_le _, _, dd', rfl⟩)
      have e1 : Ext (fun b => b = mb ∨ (Value.slice A st.length c).ownBlock = some b) w W2 := ((hx1.trans hI (fun b hb e => absurd e (by omega))).trans hx2 (fun _ _ e => e)).mono (fun _ _ e => e.elim)
      have e2 : Ext (fun b => b = mb ∨ (Value.slice A st.length c).ownBlock = some b) w X := e1.trans hR.ext (fun b hb e => by
        rcases e with e | e | e | e
        · exact absurd e (by omega)
        · exact absurd e (by omega)
        · exact .inl e
        · exact .inr e)
      have hsR : (rollF ns l j (st, ps)).2.1 = s := by rw [hroll, hR.fold]
      rw [hsR]
      exact ⟨_, results_tmp rfl _ _ _, A', c', rfl, g2, (e2.put hK3 (.inl (by omega))).put dd' (.inl (by omega))⟩
    case stop2 =>
      rintro D2 cd pre X hD2 hpre ⟨rfl, pre', x, m, s, p, A', c', L', rfl, hR, hge⟩ hK3
      have hXz := hR.ext.size
      have cs0 : X.cell? ⟨w.heap.size + 1 + 1, 0, none⟩ = some (.slice A' s.length c') := hR.bs.cell 0
      gi_wp2
      refine ⟨by simp, .inl ⟨_, _, rfl, run_takeDeferred hK3, ?_⟩⟩
      refine ⟨by simp, .inl ⟨_, _, rfl, run_takeDeferred ((World.putObj_heap_other (by omega)).trans hR.dd), ?_⟩⟩
      have g1 := own_turn (B := 0) hR.own (grownBy_putObj' X D2 (.deferred none)) (fun r e => by cases e; exact ⟨Nat.zero_le _, _, hK3, rfl⟩)
      have dd' : (X.putObj D2 (.deferred none)).heap[D]? = some (.deferred (some [])) := (World.putObj_heap_other (by omega)).trans hR.dd
      have g2 := own_turn (B := 0) g1 (grownBy_putObj' _ D (.deferred none)) (fun r e => by cases e; exact ⟨Nat.zero_le _, _, dd', rfl⟩)
      have e1 : Ext (fun b => b = mb ∨ (Value.slice A st.length c).ownBlock = some b) w W2 := ((hx1.trans hI (fun b hb e => absurd e (by omega))).trans hx2 (fun _ _ e => e)).mono (fun _ _ e => e.elim)
      have e2 : Ext (fun b => b = mb ∨ (Value.slice A st.length c).ownBlock = some b) w X := e1.trans hR.ext (fun b hb e => by
        rcases e with e | e | e | e
        · exact absurd e (by omega)
        · exact absurd e (by omega)
        · exact .inl e
        · exact .inr e)
      have hsR : (rollF ns l j (st, ps)).2.1 = s := by obtain ⟨r, hr⟩ := hpre; rw [hroll, ← hr, List.foldl_append, List.foldl_append, hR.fold, List.foldl_cons, List.foldl_nil, show rollStep l j (m, s, p) x = (m, s, p) from roll_stuck l j [x] (m, s, p) hge, roll_stuck l j r (m, s, p) hge]
      rw [hsR]
      exact ⟨_, results_tmp rfl _ _ _, A', c', rfl, g2, (e2.put hK3 (.inl (by omega))).put dd' (.inl (by omega))⟩
  case stop => exact fun D c pre W _ _ h _ => h.elim
end Go.Proofs.YtfmkoemogicdkaaGreat
