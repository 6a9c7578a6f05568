/- SchedOwns: on any store that is handed in it returns true. (printed by wip/gen/owns.py) -/
import Derived.Test.YtfmkoemogicdkaaLives
import Derived.Test.YtfmkoemogicdkaaCaps
import Derived.Test.YtfmkoemogicdkaaCopy
import Derived.Test.YtfmkoemogicdkaaSameAll
namespace Go.Proofs.Ytfmkoemogicdkaa
set_option linter.unusedVariables false
open Go.RowKit

/-- a row that may be written to: where it lies, and how far -/
def RowW (W : World) (base e sz : Nat) (A : Option Addr) (n : Nat) : Prop := n = 0 ∨ ∃ g o cur, A = some ⟨g, o, none⟩ ∧ o = 0 ∧ base ≤ g ∧ Blk W g e cur ∧ n * sz ≤ cur.size
theorem RowW.of {W : World} {base e sz n c : Nat} {A : Option Addr} {xs : List Value} (h : W.ownsRow base e sz (.slice A n c) n xs) : RowW W base e sz A n := by
  rcases h.2 with ⟨_, hn⟩ | ⟨g, cap, cur, hv, hb, hg, hle, _, hs, _⟩
  · exact .inl hn
  · injection hv with h1 _ _
    exact .inr ⟨g, 0, cur, h1, rfl, hb, hg, by rw [hs]; exact Nat.mul_le_mul_right _ hle⟩
theorem RowW.ext0 {W W' : World} {base e sz n : Nat} {A : Option Addr} (h : RowW W base e sz A n) (hx : Ext Nothing W W') : RowW W' base e sz A n := by
  rcases h with h | ⟨g, o, cur, h1, h2, h3, h4, h5⟩
  · exact .inl h
  · exact .inr ⟨g, o, cur, h1, h2, h3, h4.ext hx (fun e => e), h5⟩
/-- a write into a row leaves the rows of other types, and itself -/
theorem RowW.put {W : World} {base e sz n : Nat} {A : Option Addr} (h : RowW W base e sz A n) {g i : Nat} {u : Value} {cs : Array Value} {t : Nat} (hg : Blk W g t cs) : RowW (W.setCell ⟨g, i, none⟩ u) base e sz A n := by
  rcases h with h | ⟨g', o, cur, h1, h2, h3, h4, h5⟩
  · exact .inl h
  · by_cases hgg : g' = g
    · subst hgg
      exact .inr ⟨g', o, cur.setIfInBounds i u, h1, h2, h3, h4.set_ i u, by simpa using h5⟩
    · exact .inr ⟨g', o, cur, h1, h2, h3, h4.ext (Ext.set1 _ _ _ _) hgg, h5⟩

set_option maxRecDepth 100000 in
set_option maxHeartbeats 4000000 in
theorem owns_any (s : StoreV) (k : Int) (w : World) (h : s.Ok w) :
    Calls Try.prog 3 #[.agg #[.int .i64 s.index, .int .i64 s.next, .slice s.AJ s.nJ s.cJ, .slice s.AS s.nS s.cS, .slice s.AN s.nN s.cN, .slice s.AA s.nA s.cA, .slice s.AE s.nE s.cE, .slice s.AD s.nD s.cD, .slice s.AX s.nX s.cX], .int .i64 k] w fun e w' => e = .returned (.bool true) ∧ Ext Nothing w w' := by
  have hx0 : Ext Nothing w (w.alloc (.cells #[.int .i64 s.index, .int .i64 s.next, .slice s.AJ s.nJ s.cJ, .slice s.AS s.nS s.cS, .slice s.AN s.nN s.cN, .slice s.AA s.nA s.cA, .slice s.AE s.nE s.cE, .slice s.AD s.nD s.cD, .slice s.AX s.nX s.cX] 29)) := by (repeat' (first | (with_reducible assumption) | (with_reducible exact Ext.refl _ _) | (with_reducible refine Ext.alloc ?_ _) | (with_reducible refine Ext.drew ?_) | (with_reducible refine Ext.drewN ?_ _) | (with_reducible refine Ext.setCell ?_ (.inl (by simp only [World.size_alloc, World.size_setCell, World.size_drew] <;> omega)) _) | (with_reducible refine Ext.trans ?_ (by assumption) (fun _ _ e => e))))
  have hb0 : Blk (w.alloc (.cells #[.int .i64 s.index, .int .i64 s.next, .slice s.AJ s.nJ s.cJ, .slice s.AS s.nS s.cS, .slice s.AN s.nN s.cN, .slice s.AA s.nA s.cA, .slice s.AE s.nE s.cE, .slice s.AD s.nD s.cD, .slice s.AX s.nX s.cX] 29)) w.heap.size 29 #[.int .i64 s.index, .int .i64 s.next, .slice s.AJ s.nJ s.cJ, .slice s.AS s.nS s.cS, .slice s.AN s.nN s.cN, .slice s.AA s.nA s.cA, .slice s.AE s.nE s.cE, .slice s.AD s.nD s.cD, .slice s.AX s.nX s.cX] := Blk.new _ _ _
  have h1 : s.Ok (w.alloc (.cells #[.int .i64 s.index, .int .i64 s.next, .slice s.AJ s.nJ s.cJ, .slice s.AS s.nS s.cS, .slice s.AN s.nN s.cN, .slice s.AA s.nA s.cA, .slice s.AE s.nE s.cE, .slice s.AD s.nD s.cD, .slice s.AX s.nX s.cX] 29)) := h.ext0 hx0
  generalize hcp : capsB s.nodes = cp
  have HC := Lib.hid hcp
  clear hcp
  go_enter Try.func3, Try.ntmps3
  cases cp with
  | false =>
    go_wp2_with (first | (refine wpList_load_blk rfl 29 _ rfl STStore _ rfl #[.int .i64 s.index, .int .i64 s.next, .slice s.AJ s.nJ s.cJ, .slice s.AS s.nS s.cS, .slice s.AN s.nN s.cN, .slice s.AA s.nA s.cA, .slice s.AE s.nE s.cE, .slice s.AD s.nD s.cD, .slice s.AX s.nX s.cX] (by exact hb0) rfl ?_) | (go_at_call 5; refine (caps_any s.AN s.nN s.cN s.nodes _ h1.sN (by have := h1.mN; omega) _ _ _ _ _ _ _ _).mono ?_; rintro e w1 ⟨rfl, hx1⟩; rw [HC.out]) | (go_at_call 6; refine (lives_any _).mono ?_; rintro e w2 ⟨rfl, hx2⟩))
    go_ret
    exact ⟨rfl, (hx0.trans hx1 (fun _ _ e => e)).trans hx2 (fun _ _ e => e)⟩
  | true =>
    go_wp2_with (first | (refine wpList_load_blk rfl 29 _ rfl STStore w.heap.size rfl #[.int .i64 s.index, .int .i64 s.next, .slice s.AJ s.nJ s.cJ, .slice s.AS s.nS s.cS, .slice s.AN s.nN s.cN, .slice s.AA s.nA s.cA, .slice s.AE s.nE s.cE, .slice s.AD s.nD s.cD, .slice s.AX s.nX s.cX] (by first | exact hb0 | exact hb1 | exact hb2) rfl ?_) | (go_at_call 5; refine (caps_any s.AN s.nN s.cN s.nodes _ h1.sN (by have := h1.mN; omega) _ _ _ _ _ _ _ _).mono ?_; rintro e w1 ⟨rfl, hx1⟩; rw [HC.out]; have hb1 := hb0.ext hx1 (fun e => e); have h2 := h1.ext0 hx1) | (go_at_call 7; refine (refCopy s w1 h2).mono ?_; rintro e w2 ⟨s', rfl, hC, hx2⟩; have hxb : Ext Nothing w2 (w2.alloc (.cells #[.int .i64 s'.index, .int .i64 s'.next, .slice s'.AJ s'.nJ s'.cJ, .slice s'.AS s'.nS s'.cS, .slice s'.AN s'.nN s'.cN, .slice s'.AA s'.nA s'.cA, .slice s'.AE s'.nE s'.cE, .slice s'.AD s'.nD s'.cD, .slice s'.AX s'.nX s'.cX] 29)) := (Ext.refl _ _).alloc _; have hq2 := hx2.trans hxb (fun _ _ e => e); have hb2 : Blk (w2.alloc (.cells #[.int .i64 s'.index, .int .i64 s'.next, .slice s'.AJ s'.nJ s'.cJ, .slice s'.AS s'.nS s'.cS, .slice s'.AN s'.nN s'.cN, .slice s'.AA s'.nA s'.cA, .slice s'.AE s'.nE s'.cE, .slice s'.AD s'.nD s'.cD, .slice s'.AX s'.nX s'.cX] 29)) w.heap.size 29 #[.int .i64 s.index, .int .i64 s.next, .slice s.AJ s.nJ s.cJ, .slice s.AS s.nS s.cS, .slice s.AN s.nN s.cN, .slice s.AA s.nA s.cA, .slice s.AE s.nE s.cE, .slice s.AD s.nD s.cD, .slice s.AX s.nX s.cX] := hb1.ext hq2 (fun e => e); have h3 : s.Ok (w2.alloc (.cells #[.int .i64 s'.index, .int .i64 s'.next, .slice s'.AJ s'.nJ s'.cJ, .slice s'.AS s'.nS s'.cS, .slice s'.AN s'.nN s'.cN, .slice s'.AA s'.nA s'.cA, .slice s'.AE s'.nE s'.cE, .slice s'.AD s'.nD s'.cD, .slice s'.AX s'.nX s'.cX] 29)) := h2.ext0 hq2; have h4 : s'.Ok (w2.alloc (.cells #[.int .i64 s'.index, .int .i64 s'.next, .slice s'.AJ s'.nJ s'.cJ, .slice s'.AS s'.nS s'.cS, .slice s'.AN s'.nN s'.cN, .slice s'.AA s'.nA s'.cA, .slice s'.AE s'.nE s'.cE, .slice s'.AD s'.nD s'.cD, .slice s'.AX s'.nX s'.cX] 29)) := (hC.ok h2).ext0 hxb; have hw2 : Blk (w2.alloc (.cells #[.int .i64 s'.index, .int .i64 s'.next, .slice s'.AJ s'.nJ s'.cJ, .slice s'.AS s'.nS s'.cS, .slice s'.AN s'.nN s'.cN, .slice s'.AA s'.nA s'.cA, .slice s'.AE s'.nE s'.cE, .slice s'.AD s'.nD s'.cD, .slice s'.AX s'.nX s'.cX] 29)) w2.heap.size 29 #[.int .i64 s'.index, .int .i64 s'.next, .slice s'.AJ s'.nJ s'.cJ, .slice s'.AS s'.nS s'.cS, .slice s'.AN s'.nN s'.cN, .slice s'.AA s'.nA s'.cA, .slice s'.AE s'.nE s'.cE, .slice s'.AD s'.nD s'.cD, .slice s'.AX s'.nX s'.cX] := Blk.new _ _ _) | (go_at_call 8; refine (plan_any s k _ h3).mono ?_; rintro e w3 ⟨⟨i0, i1, i2, bl, stops, places, A1, c1, A2, c2, rfl, hO, o1, o2⟩, hx3⟩))
    have hSD := hC.same
    have hl1 := hO.len1
    have hl2 := hO.len2
    have hw0 : Ext Nothing w (w2.alloc (.cells #[.int .i64 s'.index, .int .i64 s'.next, .slice s'.AJ s'.nJ s'.cJ, .slice s'.AS s'.nS s'.cS, .slice s'.AN s'.nN s'.cN, .slice s'.AA s'.nA s'.cA, .slice s'.AE s'.nE s'.cE, .slice s'.AD s'.nD s'.cD, .slice s'.AX s'.nX s'.cX] 29)) := (hx0.trans hx1 (fun _ _ e => e)).trans hq2 (fun _ _ e => e)
    have hxP : Ext Nothing (w2.alloc (.cells #[.int .i64 s'.index, .int .i64 s'.next, .slice s'.AJ s'.nJ s'.cJ, .slice s'.AS s'.nS s'.cS, .slice s'.AN s'.nN s'.cN, .slice s'.AA s'.nA s'.cA, .slice s'.AE s'.nE s'.cE, .slice s'.AD s'.nD s'.cD, .slice s'.AX s'.nX s'.cX] 29)) (w3.alloc (.cells #[.int .i64 i0, .int .i64 i1, .int .i64 i2, .slice A1 stops.length c1, .slice A2 places.length c2, .bool bl] 35)) := hx3.alloc _
    have hP : Blk (w3.alloc (.cells #[.int .i64 i0, .int .i64 i1, .int .i64 i2, .slice A1 stops.length c1, .slice A2 places.length c2, .bool bl] 35)) w3.heap.size 35 #[.int .i64 i0, .int .i64 i1, .int .i64 i2, .slice A1 stops.length c1, .slice A2 places.length c2, .bool bl] := Blk.new _ _ _
    have r1 := (RowW.of o1).ext0 (W' := w3.alloc (.cells #[.int .i64 i0, .int .i64 i1, .int .i64 i2, .slice A1 stops.length c1, .slice A2 places.length c2, .bool bl] 35)) ((Ext.refl _ _).alloc _)
    have r2 := (RowW.of o2).ext0 (W' := w3.alloc (.cells #[.int .i64 i0, .int .i64 i1, .int .i64 i2, .slice A1 stops.length c1, .slice A2 places.length c2, .bool bl] 35)) ((Ext.refl _ _).alloc _)
    have hz3 := hx3.size
    clear o1 o2 hO hC hb0 hb1 h1 h2 h hx0 hx1 hx2 hx3 hxb hq2
    generalize w3.alloc (.cells #[.int .i64 i0, .int .i64 i1, .int .i64 i2, .slice A1 stops.length c1, .slice A2 places.length c2, .bool bl] 35) = W at hxP hP r1 r2 ⊢
    generalize hWB : w2.alloc (.cells #[.int .i64 s'.index, .int .i64 s'.next, .slice s'.AJ s'.nJ s'.cJ, .slice s'.AS s'.nS s'.cS, .slice s'.AN s'.nN s'.cN, .slice s'.AA s'.nA s'.cA, .slice s'.AE s'.nE s'.cE, .slice s'.AD s'.nD s'.cD, .slice s'.AX s'.nX s'.cX] 29) = WB at hb2 h3 h4 hw2 hw0 hxP r1 r2 hz3
    have hBz : WB.heap.size ≤ w3.heap.size := hz3
    clear hWB hz3
    generalize w3.heap.size = pb at hP hBz ⊢
    generalize w2.heap.size = qb at hw2 ⊢
    go_loopw [8] (fun i wr => ∃ t : Nat, t ≤ places.length ∧ i = .int .i64 t ∧ Ext Nothing WB wr ∧ Blk wr pb 35 #[.int .i64 i0, .int .i64 i1, .int .i64 i2, .slice A1 stops.length c1, .slice A2 places.length c2, .bool bl] ∧ RowW wr WB.heap.size 3 1 A1 stops.length ∧ RowW wr WB.heap.size 40 11 A2 places.length) (fun i _ => places.length - (intOf i).toNat)
    case atStart => exact ⟨0, Nat.zero_le _, rfl, hxP, hP, r1, r2⟩
    case round =>
      clear hxP hP r1 r2
      obtain ⟨t, ht, rfl, hx, hP, r1, r2⟩ := hrel
      have p4 : wr.cell? ⟨pb, 4, none⟩ = some (.slice A2 places.length c2) := hP.cell 4
      by_cases hlt : t < places.length
      · rcases r2 with r2 | ⟨g, o, cur, rfl, ho, hbg, hg, hsz⟩
        · omega
        · have hi : o + t * 11 + 1 < cur.size := by omega
          have c0 : wr.cell? ⟨g, o + t * 11 + 1, none⟩ = some cur[o + t * 11 + 1] := by rw [hg.cell, Array.getElem?_eq_getElem hi]
          have f0 : wr.frozen? ⟨g, o + t * 11 + 1, none⟩ = false := hg.frozen _
          have hk0 : (0 : Int) ≤ (t : Int) := by omega
          have hk1 : (t : Int) < places.length := by omega
          have hpg : pb ≠ g := Blk.ne hP hg (by decide)
          have hsx : Ext (fun q => q = g) wr (wr.setCell ⟨g, o + t * 11 + 1, none⟩ (.int .i64 (-1))) := Ext.set1 _ _ _ _
          have hx' : Ext Nothing WB (wr.setCell ⟨g, o + t * 11 + 1, none⟩ (.int .i64 (-1))) := hx.trans hsx (fun q hq e => by omega)
          have hP' := hP.ext hsx hpg
          have r1' := r1.put (i := o + t * 11 + 1) (u := .int .i64 (-1)) hg
          have r2' := RowW.put (i := o + t * 11 + 1) (u := .int .i64 (-1)) (show RowW wr WB.heap.size 40 11 (some ⟨g, o, none⟩) places.length from .inr ⟨g, o, cur, rfl, ho, hbg, hg, hsz⟩) hg
          generalize cur[o + t * 11 + 1] = u at c0
          have HO := Lib.hid ho
          clear ho hsz hi
          go_wp2
          go_roundw
          case rel => exact ⟨t + 1, by omega, by go_num, hx', hP', r1', r2'⟩
          case measure => simp [intOf]; omega
      · go_wp2
        obtain ⟨wo, rfl⟩ : ∃ wo : World, wo = wr := ⟨_, rfl⟩
        clear p4 hlt ht r2
        go_loopw [9] (fun i wr => ∃ t : Nat, t ≤ stops.length ∧ i = .int .i64 t ∧ Ext Nothing WB wr ∧ Blk wr pb 35 #[.int .i64 i0, .int .i64 i1, .int .i64 i2, .slice A1 stops.length c1, .slice A2 places.length c2, .bool bl] ∧ RowW wr WB.heap.size 3 1 A1 stops.length) (fun i _ => stops.length - (intOf i).toNat)
        case atStart => exact ⟨0, Nat.zero_le _, rfl, hx, hP, r1⟩
        case round =>
          clear hx hP r1
          obtain ⟨t, ht, rfl, hx, hP, r1⟩ := hrel
          have p3 : wr.cell? ⟨pb, 3, none⟩ = some (.slice A1 stops.length c1) := hP.cell 3
          by_cases hlt : t < stops.length
          · rcases r1 with r1 | ⟨g, o, cur, rfl, ho, hbg, hg, hsz⟩
            · omega
            · have hi : o + t < cur.size := by omega
              have c0 : wr.cell? ⟨g, o + t, none⟩ = some cur[o + t] := by rw [hg.cell, Array.getElem?_eq_getElem hi]
              have f0 : wr.frozen? ⟨g, o + t, none⟩ = false := hg.frozen _
              have c1' : wr.cell? ⟨g, o + t * 1, none⟩ = some cur[o + t] := by rw [Nat.mul_one]; exact c0
              have f1 : wr.frozen? ⟨g, o + t * 1, none⟩ = false := hg.frozen _
              have hk0 : (0 : Int) ≤ (t : Int) := by omega
              have hk1 : (t : Int) < stops.length := by omega
              have hpg : pb ≠ g := Blk.ne hP hg (by decide)
              have key : ∀ i : Nat, Ext Nothing WB (wr.setCell ⟨g, i, none⟩ (.int .i64 (-1))) ∧ Blk (wr.setCell ⟨g, i, none⟩ (.int .i64 (-1))) pb 35 #[.int .i64 i0, .int .i64 i1, .int .i64 i2, .slice (some ⟨g, o, none⟩) stops.length c1, .slice A2 places.length c2, .bool bl] ∧ RowW (wr.setCell ⟨g, i, none⟩ (.int .i64 (-1))) WB.heap.size 3 1 (some ⟨g, o, none⟩) stops.length := fun i =>
                have hsx : Ext (fun q => q = g) wr (wr.setCell ⟨g, i, none⟩ (.int .i64 (-1))) := Ext.set1 _ _ _ _
                ⟨hx.trans hsx (fun q hq e => by omega), hP.ext hsx hpg, RowW.put (show RowW wr WB.heap.size 3 1 (some ⟨g, o, none⟩) stops.length from .inr ⟨g, o, cur, rfl, ho, hbg, hg, hsz⟩) hg⟩
              generalize cur[o + t] = u at c0 c1'
              have HO := Lib.hid ho
              clear ho hsz hi
              go_wp2
              go_roundw
              case rel => exact ⟨t + 1, by omega, by go_num, key _⟩
              case measure => simp [intOf]; omega
          · have hbz := hb2.ext hx (fun e => e)
            have hwz := hw2.ext hx (fun e => e)
            go_wp2_with (first | (refine wpList_load_blk rfl 29 _ rfl STStore w.heap.size rfl #[.int .i64 s.index, .int .i64 s.next, .slice s.AJ s.nJ s.cJ, .slice s.AS s.nS s.cS, .slice s.AN s.nN s.cN, .slice s.AA s.nA s.cA, .slice s.AE s.nE s.cE, .slice s.AD s.nD s.cD, .slice s.AX s.nX s.cX] (by exact hbz) rfl ?_) | (refine wpList_load_blk rfl 29 _ rfl STStore qb rfl #[.int .i64 s'.index, .int .i64 s'.next, .slice s'.AJ s'.nJ s'.cJ, .slice s'.AS s'.nS s'.cS, .slice s'.AN s'.nN s'.cN, .slice s'.AA s'.nA s'.cA, .slice s'.AE s'.nE s'.cE, .slice s'.AD s'.nD s'.cD, .slice s'.AX s'.nX s'.cX] (by exact hwz) rfl ?_) | (go_at_call 9; refine (refSame s s' _ (h3.ext0 hx) (h4.ext0 hx) hSD).mono ?_; rintro e w5 ⟨rfl, hx5⟩) | (go_at_call 6; refine (lives_any _).mono ?_; rintro e w6 ⟨rfl, hx6⟩))
            go_ret
            exact ⟨rfl, ((hw0.trans hx (fun _ _ e => e)).trans hx5 (fun _ _ e => e)).trans hx6 (fun _ _ e => e)⟩
end Go.Proofs.Ytfmkoemogicdkaa
