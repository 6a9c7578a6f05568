/- The indexes of a group: as many as it counts, or the nodes that are up. -/
import Derived.Test.YtfmkoemogicdkaaGreatIdx
namespace Go.Proofs.YtfmkoemogicdkaaGreat
set_option linter.unusedVariables false
open Go.RowKit

theorem flat_int : ∀ l : List Int, l.flatMap intC = l.map (Value.int .i64)
  | [] => rfl
  | x :: r => by rw [List.flatMap_cons, flat_int r]; rfl
theorem countF_le (g : GroupD) : countF g ≤ 4 := by unfold countF; omega
theorem countF_eq (g : GroupD) : max 0 (min g.count 4) = ((countF g : Nat) : Int) := by unfold countF; omega
theorem range_succ_int (k : Nat) : (List.range (k + 1)).map (fun i : Nat => (i : Int)) = (List.range k).map (fun i : Nat => (i : Int)) ++ [(k : Int)] := by simp [List.range_succ]

set_option maxHeartbeats 1000000 in
/-- of a job that is no system job -/
theorem indexes_count (j : JobD) (AG : Option Addr) (nG cG : Nat) (k : Nat) (g : GroupD) (w : World) (s0 s1 s2 s3 s4 s5 s6 s7 s8 : Value) (hG : Sl w 3 AG nG (j.groups.map GroupD.cells)) (hg : j.groups[k]? = some g) (hnG : nG ≤ 67108864) (hty : j.ty ≠ 3) :
    Calls Tryz.prog 64 #[.agg #[s0, s1, s2, s3, s4, s5, s6, s7, s8], .agg (JobV.cells (j, .slice AG nG cG)).toArray, .int .i64 k] w fun e w' =>
      ∃ A' c', e = .returned (.slice A' ((List.range (countF g)).map (fun i : Nat => (i : Int))).length c') ∧ w'.ownsRow w.heap.size 3 1 (.slice A' ((List.range (countF g)).map (fun i : Nat => (i : Int))).length c') ((List.range (countF g)).map (fun i : Nat => (i : Int))).length (((List.range (countF g)).map (fun i : Nat => (i : Int))).flatMap intC) ∧ Ext Nothing w w' := by
  have hkl : k < j.groups.length := (List.getElem?_eq_some_iff.1 hg).1
  have hkn : k < nG := by have := hG.len; omega
  have hgg : j.groups[k] = g := (List.getElem?_eq_some_iff.1 hg).2
  have hx0 : Ext Nothing w ((w.alloc (.cells #[s0, s1, s2, s3, s4, s5, s6, s7, s8] 29)).alloc (.cells (JobV.cells (j, .slice AG nG cG)).toArray 43)) := by (repeat' (first | (with_reducible assumption) | (with_reducible exact Ext.refl _ _) | (with_reducible refine Ext.alloc ?_ _) | (with_reducible refine Ext.drew ?_) | (with_reducible refine Ext.drewN ?_ _) | (with_reducible refine Ext.setCell ?_ (.inl (by simp only [World.size_alloc, World.size_setCell, World.size_drew] <;> omega)) _) | (with_reducible refine Ext.trans ?_ (by assumption) (fun _ _ e => e))))
  obtain ⟨_, b, off, rfl, hce⟩ := hG.get hx0 hkn
  rw [hgg] at hce
  obtain ⟨gc, ga⟩ := g
  obtain ⟨i1, i2, i3, i4, gs, i6, i7⟩ := j
  simp only at hkl hgg hty hg hG hx0 hce
  have hcnt := countF_eq ⟨gc, ga⟩
  have hle := countF_le ⟨gc, ga⟩
  simp only at hcnt
  generalize hN : countF ⟨gc, ga⟩ = N at hcnt hle
  clear hN
  have hc0 := hce 0 _ rfl
  simp only [JobV.cells, Nat.add_zero] at hc0 hx0 ⊢
  have HT : (i2 == 3) = false := by simpa using hty
  have hcnt' := Lib.hid hcnt
  clear hce hgg hg hG hcnt hty
  have hthree : (4 < gc ∧ N = 4) ∨ (0 < gc ∧ gc ≤ 4 ∧ gc = N) ∨ (gc ≤ 0 ∧ N = 0) := by have := hcnt'.out; omega
  clear hcnt'
  rcases hthree with ⟨k1, k2⟩ | ⟨k1, k2, k3⟩ | ⟨k1, k2⟩
  · go_enter Tryz.func64, Tryz.ntmps64
    go_wp2
    go_loopw [7, 22] (fun v i wr => ∃ t : Nat, t ≤ N ∧ i = .int .i64 t ∧ Ext Nothing w wr ∧ ∃ A' c', v = .slice A' t c' ∧ wr.ownsRow w.heap.size 3 1 (.slice A' t c') t (((List.range t).map (fun i : Nat => (i : Int))).flatMap intC)) (fun _ i _ => N - (intOf i).toNat)
    case atStart => exact ⟨0, Nat.zero_le _, rfl, hx0, none, 0, rfl, World.ownsRow_nil _ _ _ _⟩
    case round =>
      obtain ⟨t, ht, rfl, hx, A', c', rfl, hown⟩ := hrel
      have hsz := hx.size
      by_cases hlt : t < N
      · have hown1 : (wr.alloc (.cells #[.int .i64 t] 3)).ownsRow w.heap.size 3 1 (.slice A' t c') t (((List.range t).map (fun i : Nat => (i : Int))).flatMap intC) := own_ext (S := Nothing) hown (by (repeat' (first | (with_reducible assumption) | (with_reducible exact Ext.refl _ _) | (with_reducible refine Ext.alloc ?_ _) | (with_reducible refine Ext.drew ?_) | (with_reducible refine Ext.drewN ?_ _) | (with_reducible refine Ext.setCell ?_ (.inl (by simp only [World.size_alloc, World.size_setCell, World.size_drew] <;> omega)) _) | (with_reducible refine Ext.trans ?_ (by assumption) (fun _ _ e => e))))) (fun _ _ e => e)
        have hb1 : Blk (wr.alloc (.cells #[.int .i64 t] 3)) wr.heap.size 3 #[.int .i64 t] := Blk.new _ _ _
        go_wp2_with (first | (refine wpList_slice1 rfl 81 _ rfl SLint #[.int .i64 t] rfl rfl ?_) | (at_builtin; refine wpList_app1 rfl _ _ 81 rfl w.heap.size SLint (.slice A' t c') t (((List.range t).map (fun i : Nat => (i : Int))).flatMap intC) rfl hown1 wr.heap.size 1 #[.int .i64 t] rfl hb1 rfl rfl (by omega) (by simp; omega) ?_; intro A2 c2 w2 hown2 hgr2))
        go_roundw
        case rel =>
          refine ⟨t + 1, by omega, by go_num, ?_, A2, c2, rfl, ?_⟩
          · have h3 : Ext Nothing w (wr.alloc (.cells #[.int .i64 t] 3)) := by (repeat' (first | (with_reducible assumption) | (with_reducible exact Ext.refl _ _) | (with_reducible refine Ext.alloc ?_ _) | (with_reducible refine Ext.drew ?_) | (with_reducible refine Ext.drewN ?_ _) | (with_reducible refine Ext.setCell ?_ (.inl (by simp only [World.size_alloc, World.size_setCell, World.size_drew] <;> omega)) _) | (with_reducible refine Ext.trans ?_ (by assumption) (fun _ _ e => e))))
            exact h3.grown hgr2 (fun g e => .inl (own_ge hown e))
          · rw [range_succ_int, List.flatMap_append]
            exact hown2
        case measure => simp [intOf]; omega
      · obtain rfl : t = N := by omega
        have hl : ((List.range t).map (fun i : Nat => (i : Int))).length = t := by simp
        go_wp2
        go_ret
        rw [hl]
        exact ⟨A', c', rfl, hown, hx⟩
  · go_enter Tryz.func64, Tryz.ntmps64
    go_wp2
    go_loopw [7, 22] (fun v i wr => ∃ t : Nat, t ≤ N ∧ i = .int .i64 t ∧ Ext Nothing w wr ∧ ∃ A' c', v = .slice A' t c' ∧ wr.ownsRow w.heap.size 3 1 (.slice A' t c') t (((List.range t).map (fun i : Nat => (i : Int))).flatMap intC)) (fun _ i _ => N - (intOf i).toNat)
    case atStart => exact ⟨0, Nat.zero_le _, rfl, hx0, none, 0, rfl, World.ownsRow_nil _ _ _ _⟩
    case round =>
      obtain ⟨t, ht, rfl, hx, A', c', rfl, hown⟩ := hrel
      have hsz := hx.size
      by_cases hlt : t < N
      · have hown1 : (wr.alloc (.cells #[.int .i64 t] 3)).ownsRow w.heap.size 3 1 (.slice A' t c') t (((List.range t).map (fun i : Nat => (i : Int))).flatMap intC) := own_ext (S := Nothing) hown (by (repeat' (first | (with_reducible assumption) | (with_reducible exact Ext.refl _ _) | (with_reducible refine Ext.alloc ?_ _) | (with_reducible refine Ext.drew ?_) | (with_reducible refine Ext.drewN ?_ _) | (with_reducible refine Ext.setCell ?_ (.inl (by simp only [World.size_alloc, World.size_setCell, World.size_drew] <;> omega)) _) | (with_reducible refine Ext.trans ?_ (by assumption) (fun _ _ e => e))))) (fun _ _ e => e)
        have hb1 : Blk (wr.alloc (.cells #[.int .i64 t] 3)) wr.heap.size 3 #[.int .i64 t] := Blk.new _ _ _
        go_wp2_with (first | (refine wpList_slice1 rfl 81 _ rfl SLint #[.int .i64 t] rfl rfl ?_) | (at_builtin; refine wpList_app1 rfl _ _ 81 rfl w.heap.size SLint (.slice A' t c') t (((List.range t).map (fun i : Nat => (i : Int))).flatMap intC) rfl hown1 wr.heap.size 1 #[.int .i64 t] rfl hb1 rfl rfl (by omega) (by simp; omega) ?_; intro A2 c2 w2 hown2 hgr2))
        go_roundw
        case rel =>
          refine ⟨t + 1, by omega, by go_num, ?_, A2, c2, rfl, ?_⟩
          · have h3 : Ext Nothing w (wr.alloc (.cells #[.int .i64 t] 3)) := by (repeat' (first | (with_reducible assumption) | (with_reducible exact Ext.refl _ _) | (with_reducible refine Ext.alloc ?_ _) | (with_reducible refine Ext.drew ?_) | (with_reducible refine Ext.drewN ?_ _) | (with_reducible refine Ext.setCell ?_ (.inl (by simp only [World.size_alloc, World.size_setCell, World.size_drew] <;> omega)) _) | (with_reducible refine Ext.trans ?_ (by assumption) (fun _ _ e => e))))
            exact h3.grown hgr2 (fun g e => .inl (own_ge hown e))
          · rw [range_succ_int, List.flatMap_append]
            exact hown2
        case measure => simp [intOf]; omega
      · obtain rfl : t = N := by omega
        have hl : ((List.range t).map (fun i : Nat => (i : Int))).length = t := by simp
        go_wp2
        go_ret
        rw [hl]
        exact ⟨A', c', rfl, hown, hx⟩
  · go_enter Tryz.func64, Tryz.ntmps64
    go_wp2
    go_loopw [7, 22] (fun v i wr => ∃ t : Nat, t ≤ N ∧ i = .int .i64 t ∧ Ext Nothing w wr ∧ ∃ A' c', v = .slice A' t c' ∧ wr.ownsRow w.heap.size 3 1 (.slice A' t c') t (((List.range t).map (fun i : Nat => (i : Int))).flatMap intC)) (fun _ i _ => N - (intOf i).toNat)
    case atStart => exact ⟨0, Nat.zero_le _, rfl, hx0, none, 0, rfl, World.ownsRow_nil _ _ _ _⟩
    case round =>
      obtain ⟨t, ht, rfl, hx, A', c', rfl, hown⟩ := hrel
      have hsz := hx.size
      by_cases hlt : t < N
      · exact absurd hlt (by omega)
      · obtain rfl : t = N := by omega
        have hl : ((List.range t).map (fun i : Nat => (i : Int))).length = t := by simp
        go_wp2
        go_ret
        rw [hl]
        exact ⟨A', c', rfl, hown, hx⟩
set_option maxHeartbeats 1000000 in
/-- of a system job: the nodes that are up and not drained, each once -/
theorem indexes_sys (j : JobD) (gv : Value) (k : Nat) (AN : Option Addr) (nN cN : Nat) (ns : List NodD) (w : World) (s0 s1 s2 s3 s5 s6 s7 s8 : Value) (hN : Sl w 8 AN nN (ns.map NodD.cells)) (hnN : nN ≤ 33554432) (hty : j.ty = 3) :
    Calls Tryz.prog 64 #[.agg #[s0, s1, s2, s3, .slice AN nN cN, s5, s6, s7, s8], .agg (JobV.cells (j, gv)).toArray, .int .i64 k] w fun e w' =>
      ∃ A' c', e = .returned (.slice A' (upNodes ns).length c') ∧ w'.ownsRow w.heap.size 3 1 (.slice A' (upNodes ns).length c') (upNodes ns).length ((upNodes ns).flatMap intC) ∧ Ext Nothing w w' := by
  obtain ⟨i1, i2, i3, i4, gs, i6, i7⟩ := j
  simp only at hty
  subst hty
  have hx0 : Ext Nothing w ((w.alloc (.cells #[s0, s1, s2, s3, .slice AN nN cN, s5, s6, s7, s8] 29)).alloc (.cells #[.int .i64 i1, .int .i64 3, .int .i64 i3, .int .i64 i4, gv, .int .i64 i6, .bool i7] 43)) := by (repeat' (first | (with_reducible assumption) | (with_reducible exact Ext.refl _ _) | (with_reducible refine Ext.alloc ?_ _) | (with_reducible refine Ext.drew ?_) | (with_reducible refine Ext.drewN ?_ _) | (with_reducible refine Ext.setCell ?_ (.inl (by simp only [World.size_alloc, World.size_setCell, World.size_drew] <;> omega)) _) | (with_reducible refine Ext.trans ?_ (by assumption) (fun _ _ e => e))))
  have hlen := Lib.hid hN.len
  simp only [JobV.cells]
  go_enter Tryz.func64, Tryz.ntmps64
  go_wp2
  go_loopw [7, 34] (fun v i wr => ∃ t : Nat, t ≤ nN ∧ i = .int .i64 t ∧ Ext Nothing w wr ∧ ∃ (out : List Int) (A' : Option Addr) (c' : Nat), out = (ns.take t).foldl upStep [] ∧ out.length ≤ t ∧ v = .slice A' out.length c' ∧ wr.ownsRow w.heap.size 3 1 (.slice A' out.length c') out.length (out.flatMap intC)) (fun _ i _ => nN - (intOf i).toNat)
  case atStart => exact ⟨0, Nat.zero_le _, rfl, hx0, [], none, 0, rfl, Nat.zero_le _, rfl, World.ownsRow_nil _ _ _ _⟩
  case round =>
    obtain ⟨t, ht, rfl, hx, out, A', c', hout, holen, rfl, hown⟩ := hrel
    have hsz := hx.size
    by_cases hlt : t < nN
    · obtain ⟨hjn, b, off, rfl, hce⟩ := hN.get hx hlt
      have hstep := Lib.hid (foldl_take upStep [] ns t hjn)
      generalize ns[t] = y at hce hstep
      obtain ⟨y0, ⟨y1, y2⟩, y3, y4, y5, y6, y7⟩ := y
      simp only [NodD.cells] at hce
      have hxB : Ext Nothing w (wr.alloc (.cells #[.int .i64 y0, .int .i64 y1, .int .i64 y2, .bool y3, .bool y4, .int .i64 y5, .int .i64 y6, .int .i64 y7] 37)) := by (repeat' (first | (with_reducible assumption) | (with_reducible exact Ext.refl _ _) | (with_reducible refine Ext.alloc ?_ _) | (with_reducible refine Ext.drew ?_) | (with_reducible refine Ext.drewN ?_ _) | (with_reducible refine Ext.setCell ?_ (.inl (by simp only [World.size_alloc, World.size_setCell, World.size_drew] <;> omega)) _) | (with_reducible refine Ext.trans ?_ (by assumption) (fun _ _ e => e))))
      have hxB' : Ext Nothing wr (wr.alloc (.cells #[.int .i64 y0, .int .i64 y1, .int .i64 y2, .bool y3, .bool y4, .int .i64 y5, .int .i64 y6, .int .i64 y7] 37)) := by (repeat' (first | (with_reducible assumption) | (with_reducible exact Ext.refl _ _) | (with_reducible refine Ext.alloc ?_ _) | (with_reducible refine Ext.drew ?_) | (with_reducible refine Ext.drewN ?_ _) | (with_reducible refine Ext.setCell ?_ (.inl (by simp only [World.size_alloc, World.size_setCell, World.size_drew] <;> omega)) _) | (with_reducible refine Ext.trans ?_ (by assumption) (fun _ _ e => e))))
      have hownB := own_ext (S := Nothing) hown hxB' (fun _ _ e => e)
      have hslB := Sl.of_own intC_len hownB rfl
      rw [← hout] at hstep
      have hout' := Lib.hid hout
      clear hout
      cases hup : y3 && !y4 && !out.contains y0 with
      | true =>
        have hs2 : (ns.take (t + 1)).foldl upStep [] = out ++ [y0] := by rw [hstep.out]; unfold upStep; simp only [hup, if_true]
        simp only [Bool.and_eq_true, Bool.not_eq_true'] at hup
        obtain ⟨⟨rfl, rfl⟩, hcon⟩ := hup
        have HS := Lib.hid hs2
        have HC := Lib.hid hcon
        clear hs2 hcon
        go_wp2_with (first | (refine wpList_load_at rfl 37 _ rfl STNode b (off + t * 8) rfl _ (by exact hce) rfl ?_) | (go_at_call 71; refine (contains_int A' out.length c' out y0 _ hslB (by omega)).mono ?_; rintro e w3 ⟨rfl, hx3⟩; rw [HC.out]; have hown3 : (w3.alloc (.cells #[.int .i64 y0] 3)).ownsRow w.heap.size 3 1 (.slice A' out.length c') out.length (out.flatMap intC) := own_ext (S := Nothing) hownB (by (repeat' (first | (with_reducible assumption) | (with_reducible exact Ext.refl _ _) | (with_reducible refine Ext.alloc ?_ _) | (with_reducible refine Ext.drew ?_) | (with_reducible refine Ext.drewN ?_ _) | (with_reducible refine Ext.setCell ?_ (.inl (by simp only [World.size_alloc, World.size_setCell, World.size_drew] <;> omega)) _) | (with_reducible refine Ext.trans ?_ (by assumption) (fun _ _ e => e))))) (fun _ _ e => e); have hn3 : Blk (w3.alloc (.cells #[.int .i64 y0] 3)) w3.heap.size 3 #[.int .i64 y0] := Blk.new _ _ _; have hsz3 := hx3.size; have hszB := hxB.size; have hy0 : w3.cell? ⟨wr.heap.size, 0, none⟩ = some (.int .i64 y0) := hx3.cell ((Blk.new wr 37 _).cell 0) (fun e => e)) | (refine wpList_slice1 rfl 81 _ rfl SLint #[.int .i64 y0] rfl rfl ?_) | (at_builtin; refine wpList_app1 rfl _ _ 81 rfl w.heap.size SLint (.slice A' out.length c') out.length (out.flatMap intC) rfl hown3 w3.heap.size 1 #[.int .i64 y0] rfl hn3 rfl rfl (by omega) (by simp; omega) ?_; intro A2 c2 w2 hown2 hgr2))
        go_roundw
        case rel =>
          refine ⟨t + 1, by omega, by go_num, ?_, out ++ [y0], A2, c2, HS.out.symm, by simp; omega, by simp, ?_⟩
          · have h3 : Ext Nothing w (w3.alloc (.cells #[.int .i64 y0] 3)) := by (repeat' (first | (with_reducible assumption) | (with_reducible exact Ext.refl _ _) | (with_reducible refine Ext.alloc ?_ _) | (with_reducible refine Ext.drew ?_) | (with_reducible refine Ext.drewN ?_ _) | (with_reducible refine Ext.setCell ?_ (.inl (by simp only [World.size_alloc, World.size_setCell, World.size_drew] <;> omega)) _) | (with_reducible refine Ext.trans ?_ (by assumption) (fun _ _ e => e))))
            exact h3.grown hgr2 (fun g e => .inl (own_ge hown e))
          · rw [List.flatMap_append, List.length_append]
            exact hown2
        case measure => simp [intOf]; omega
      | false =>
        have hs2 : (ns.take (t + 1)).foldl upStep [] = out := by rw [hstep.out]; unfold upStep; simp only [hup]; rfl
        have HS := Lib.hid hs2
        clear hs2
        cases y3 with
        | false =>
          clear hup
          go_wp2_with (refine wpList_load_at rfl 37 _ rfl STNode b (off + t * 8) rfl _ (by exact hce) rfl ?_)
          go_roundw
          case rel => exact ⟨t + 1, by omega, by go_num, hxB, out, A', c', HS.out.symm, by omega, rfl, hownB⟩
          case measure => simp [intOf]; omega
        | true =>
          cases y4 with
          | true =>
            clear hup
            go_wp2_with (refine wpList_load_at rfl 37 _ rfl STNode b (off + t * 8) rfl _ (by exact hce) rfl ?_)
            go_roundw
            case rel => exact ⟨t + 1, by omega, by go_num, hxB, out, A', c', HS.out.symm, by omega, rfl, hownB⟩
            case measure => simp [intOf]; omega
          | false =>
            have HC := Lib.hid (show out.contains y0 = true by simpa using hup)
            clear hup
            go_wp2_with (first | (refine wpList_load_at rfl 37 _ rfl STNode b (off + t * 8) rfl _ (by exact hce) rfl ?_) | (go_at_call 71; refine (contains_int A' out.length c' out y0 _ hslB (by omega)).mono ?_; rintro e w3 ⟨rfl, hx3⟩; rw [HC.out]))
            go_roundw
            case rel => exact ⟨t + 1, by omega, by go_num, hxB.trans hx3 (fun _ _ e => e), out, A', c', HS.out.symm, by omega, rfl, own_ext (S := Nothing) hownB hx3 (fun _ _ e => e)⟩
            case measure => simp [intOf]; omega
    · have hall := Lib.hid (foldl_all upStep [] ns t (by have := hlen.out; omega))
      rw [hall.out] at hout
      have hup : out = upNodes ns := hout
      subst hup
      clear hout
      go_wp2
      go_ret
      exact ⟨A', c', rfl, hown, hx⟩
end Go.Proofs.YtfmkoemogicdkaaGreat
