/- Whether a demand may be placed on a node. (printed by wip/gen/may.py) -/
import Derived.Test.YtfmkoemogicdkaaGreatUsedM
import Derived.StillTailTactics
import Derived.BigQuiet
namespace Go.Proofs.YtfmkoemogicdkaaGreat
set_option linter.unusedVariables false
open Go.RowKit

theorem fits_lit (a b c d e f : Int) (w : World) : Calls Tryz.prog 55 #[.agg #[.int .i64 a, .int .i64 b], .agg #[.int .i64 c, .int .i64 d], .agg #[.int .i64 e, .int .i64 f]] w fun x w' => x = .returned (.bool (fitsF ⟨a, b⟩ ⟨c, d⟩ ⟨e, f⟩)) ∧ Ext Nothing w w' := fits_any ⟨a, b⟩ ⟨c, d⟩ ⟨e, f⟩ w
set_option maxRecDepth 100000 in
set_option maxHeartbeats 2000000 in
theorem may_any (AN : Option Addr) (nN cN : Nat) (ns : List NodD) (AA : Option Addr) (nA cA : Nat) (l : List AllocD) (AM : Option Addr) (nM cM : Nat) (more : List AllocD) (node : Int) (ask : ResD) (w : World) (s0 s1 s2 s3 s6 s7 s8 : Value)
    (hN : Sl w 8 AN nN (ns.map NodD.cells)) (hnN : nN ≤ 67108864) (hl : Sl w 11 AA nA (l.map AllocD.cells)) (hn : nA ≤ 67108864) (hmo : Sl w 11 AM nM (more.map AllocD.cells)) (hnM : nM ≤ 2000000000000) :
    Calls Tryz.prog 41 #[.agg #[s0, s1, s2, s3, .slice AN nN cN, .slice AA nA cA, s6, s7, s8], .slice AM nM cM, .int .i64 node, .agg #[.int .i64 ask.cpu, .int .i64 ask.mem]] w fun e w' => e = .returned (.bool (mayF ns l more node ask)) ∧ Ext Nothing w w' := by
  have hx0 : Ext Nothing w ((w.alloc (.cells #[s0, s1, s2, s3, .slice AN nN cN, .slice AA nA cA, s6, s7, s8] 29)).alloc (.cells #[.int .i64 ask.cpu, .int .i64 ask.mem] 35)) := by (repeat' (first | (with_reducible assumption) | (with_reducible exact Ext.refl _ _) | (with_reducible refine Ext.alloc ?_ _) | (with_reducible refine Ext.drew ?_) | (with_reducible refine Ext.drewN ?_ _) | (with_reducible refine Ext.setCell ?_ (.inl (by simp only [World.size_alloc, World.size_setCell, World.size_drew] <;> omega)) _) | (with_reducible refine Ext.trans ?_ (by assumption) (fun _ _ e => e))))
  have hb0 : Blk ((w.alloc (.cells #[s0, s1, s2, s3, .slice AN nN cN, .slice AA nA cA, s6, s7, s8] 29)).alloc (.cells #[.int .i64 ask.cpu, .int .i64 ask.mem] 35)) w.heap.size 29 #[s0, s1, s2, s3, .slice AN nN cN, .slice AA nA cA, s6, s7, s8] := (Blk.new w _ _).ext (S := Nothing) (by (repeat' (first | (with_reducible assumption) | (with_reducible exact Ext.refl _ _) | (with_reducible refine Ext.alloc ?_ _) | (with_reducible refine Ext.drew ?_) | (with_reducible refine Ext.drewN ?_ _) | (with_reducible refine Ext.setCell ?_ (.inl (by simp only [World.size_alloc, World.size_setCell, World.size_drew] <;> omega)) _) | (with_reducible refine Ext.trans ?_ (by assumption) (fun _ _ e => e))))) (fun e => e)
  have ha0 : Blk ((w.alloc (.cells #[s0, s1, s2, s3, .slice AN nN cN, .slice AA nA cA, s6, s7, s8] 29)).alloc (.cells #[.int .i64 ask.cpu, .int .i64 ask.mem] 35)) (w.heap.size + 1) 35 #[.int .i64 ask.cpu, .int .i64 ask.mem] := Blk.new' _ _ _ (by simp)
  rcases idx_cases (fun n : NodD => n.id == node) ns with ⟨hp, hf, _⟩ | ⟨i, nd, hp, hni, _, hf, _⟩
  · have H := Lib.hid (show mayF ns l more node ask = false by unfold mayF; rw [hf])
    have HP := Lib.hid hp
    clear hp hf
    go_enter Tryz.func41, Tryz.ntmps41
    go_wp2_with (go_at_call 20; refine (findNode AN nN cN ns node _ (hN.ext0 hx0) hnN s0 s1 s2 s3 _ _ s6 s7 s8 rfl).mono ?_; rintro e w1 ⟨rfl, hx1⟩; rw [HP.out])
    go_ret
    exact ⟨by rw [H.out]; rfl, hx0.trans hx1 (fun _ _ e => e)⟩
  · have hil : i < ns.length := (List.getElem?_eq_some_iff.1 hni).1
    have hin : i < nN := by have := hN.len; omega
    have hi0 : ¬ ((i : Int) < 0) := by omega
    have hi1 : decide ((i : Int) < 0) = false := by simp
    obtain ⟨_, b, off, rfl, hce⟩ := hN.get (Ext.refl _ _) hin
    rw [(List.getElem?_eq_some_iff.1 hni).2] at hce
    have HP := Lib.hid hp
    clear hp
    cases hu : nd.up with
    | false =>
      have H := Lib.hid (show mayF ns l more node ask = false by unfold mayF; rw [hf]; simp [hu])
      have HU := Lib.hid hu
      clear hf hu
      go_enter Tryz.func41, Tryz.ntmps41
      go_wp2_with (go_at_call 20; refine (findNode _ nN cN ns node _ (hN.ext0 hx0) hnN s0 s1 s2 s3 _ _ s6 s7 s8 rfl).mono ?_; rintro e w1 ⟨rfl, hx1⟩; rw [HP.out]; have hx01 := hx0.trans hx1 (fun _ _ e => e); have hb1 := hb0.ext hx1 (fun e => e); have m4 : w1.cell? ⟨w.heap.size, 4, none⟩ = some (.slice (some ⟨b, off, none⟩) nN cN) := hb1.cell 4; have n3 : w1.cell? ⟨b, off + i * 8 + 3, none⟩ = some (.bool nd.up) := hx01.cell (hce 3 _ rfl) (fun e => e); have n4 : w1.cell? ⟨b, off + i * 8 + 4, none⟩ = some (.bool nd.drain) := hx01.cell (hce 4 _ rfl) (fun e => e); rw [HU.out] at n3)
      go_ret
      exact ⟨by rw [H.out]; rfl, hx01⟩
    | true =>
      cases hd : nd.drain with
      | true =>
        have H := Lib.hid (show mayF ns l more node ask = false by unfold mayF; rw [hf]; simp [hd])
        have HU := Lib.hid hu
        have HD := Lib.hid hd
        clear hf hu hd
        go_enter Tryz.func41, Tryz.ntmps41
        go_wp2_with (go_at_call 20; refine (findNode _ nN cN ns node _ (hN.ext0 hx0) hnN s0 s1 s2 s3 _ _ s6 s7 s8 rfl).mono ?_; rintro e w1 ⟨rfl, hx1⟩; rw [HP.out]; have hx01 := hx0.trans hx1 (fun _ _ e => e); have hb1 := hb0.ext hx1 (fun e => e); have m4 : w1.cell? ⟨w.heap.size, 4, none⟩ = some (.slice (some ⟨b, off, none⟩) nN cN) := hb1.cell 4; have n3 : w1.cell? ⟨b, off + i * 8 + 3, none⟩ = some (.bool nd.up) := hx01.cell (hce 3 _ rfl) (fun e => e); have n4 : w1.cell? ⟨b, off + i * 8 + 4, none⟩ = some (.bool nd.drain) := hx01.cell (hce 4 _ rfl) (fun e => e); rw [HU.out] at n3; rw [HD.out] at n4)
        go_ret
        exact ⟨by rw [H.out]; rfl, hx01⟩
      | false =>
        have HU := Lib.hid hu
        have HD := Lib.hid hd
        cases hm : usedM l more node with
        | none =>
          have H := Lib.hid (show mayF ns l more node ask = false by unfold mayF; rw [hf]; simp [hm])
          have HM := Lib.hid hm
          clear hf hu hd hm
          go_enter Tryz.func41, Tryz.ntmps41
          go_wp2_with (first | (go_at_call 20; refine (findNode _ nN cN ns node _ (hN.ext0 hx0) hnN s0 s1 s2 s3 _ _ s6 s7 s8 rfl).mono ?_; rintro e w1 ⟨rfl, hx1⟩; rw [HP.out]; have hx01 := hx0.trans hx1 (fun _ _ e => e); have hb1 := hb0.ext hx1 (fun e => e); have m4 : w1.cell? ⟨w.heap.size, 4, none⟩ = some (.slice (some ⟨b, off, none⟩) nN cN) := hb1.cell 4; have n3 : w1.cell? ⟨b, off + i * 8 + 3, none⟩ = some (.bool nd.up) := hx01.cell (hce 3 _ rfl) (fun e => e); have n4 : w1.cell? ⟨b, off + i * 8 + 4, none⟩ = some (.bool nd.drain) := hx01.cell (hce 4 _ rfl) (fun e => e); rw [HU.out] at n3; rw [HD.out] at n4) | (refine wpList_load_blk rfl 29 _ rfl STStore w.heap.size rfl #[s0, s1, s2, s3, .slice (some ⟨b, off, none⟩) nN cN, .slice AA nA cA, s6, s7, s8] hb1 rfl ?_) | (go_at_call 54; refine (usedM_any AA nA cA l AM nM cM more node _ s0 s1 s2 s3 _ s6 s7 s8 (hl.ext0 hx01) hn (hmo.ext0 hx01) hnM).mono ?_; rintro e w2 ⟨rfl, hx2⟩; rw [HM.out]; simp only [optR, Option.getD_none, Option.isSome_none]))
          go_quiet (fail)
          go_wp2
          go_ret
          have h2 := hx01.trans hx2 (fun _ _ e => e)
          exact ⟨by rw [H.out]; rfl, by (repeat' (first | (with_reducible assumption) | (with_reducible exact Ext.refl _ _) | (with_reducible refine Ext.alloc ?_ _) | (with_reducible refine Ext.drew ?_) | (with_reducible refine Ext.drewN ?_ _) | (with_reducible refine Ext.setCell ?_ (.inl (by simp only [World.size_alloc, World.size_setCell, World.size_drew] <;> omega)) _) | (with_reducible refine Ext.trans ?_ (by assumption) (fun _ _ e => e))))⟩
        | some r =>
          obtain ⟨r1, r2⟩ := r
          have H := Lib.hid (show mayF ns l more node ask = fitsF ⟨r1, r2⟩ ⟨ask.cpu, ask.mem⟩ ⟨nd.cap.cpu, nd.cap.mem⟩ by unfold mayF; rw [hf]; simp [hu, hd, hm])
          have HM := Lib.hid hm
          clear hf hu hd hm
          go_enter Tryz.func41, Tryz.ntmps41
          go_wp2_with (first | (go_at_call 20; refine (findNode _ nN cN ns node _ (hN.ext0 hx0) hnN s0 s1 s2 s3 _ _ s6 s7 s8 rfl).mono ?_; rintro e w1 ⟨rfl, hx1⟩; rw [HP.out]; have hx01 := hx0.trans hx1 (fun _ _ e => e); have hb1 := hb0.ext hx1 (fun e => e); have m4 : w1.cell? ⟨w.heap.size, 4, none⟩ = some (.slice (some ⟨b, off, none⟩) nN cN) := hb1.cell 4; have n3 : w1.cell? ⟨b, off + i * 8 + 3, none⟩ = some (.bool nd.up) := hx01.cell (hce 3 _ rfl) (fun e => e); have n4 : w1.cell? ⟨b, off + i * 8 + 4, none⟩ = some (.bool nd.drain) := hx01.cell (hce 4 _ rfl) (fun e => e); rw [HU.out] at n3; rw [HD.out] at n4) | (refine wpList_load_blk rfl 29 _ rfl STStore w.heap.size rfl #[s0, s1, s2, s3, .slice (some ⟨b, off, none⟩) nN cN, .slice AA nA cA, s6, s7, s8] hb1 rfl ?_) | (go_at_call 54; refine (usedM_any AA nA cA l AM nM cM more node _ s0 s1 s2 s3 _ s6 s7 s8 (hl.ext0 hx01) hn (hmo.ext0 hx01) hnM).mono ?_; rintro e w2 ⟨rfl, hx2⟩; rw [HM.out]; simp only [optR, Option.getD_some, Option.isSome_some]))
          have h2 : Ext Nothing w w2 := hx01.trans hx2 (fun _ _ e => e)
          have hb2 := hb1.ext hx2 (fun e => e)
          have ha2 := (ha0.ext hx1 (fun e => e)).ext hx2 (fun e => e)
          have hz2 := hb2.lt
          have hZ : Ext Nothing w2 (w2.alloc (.cells #[.int .i64 r1, .int .i64 r2] 35)) := by (repeat' (first | (with_reducible assumption) | (with_reducible exact Ext.refl _ _) | (with_reducible refine Ext.alloc ?_ _) | (with_reducible refine Ext.drew ?_) | (with_reducible refine Ext.drewN ?_ _) | (with_reducible refine Ext.setCell ?_ (.inl (by simp only [World.size_alloc, World.size_setCell, World.size_drew] <;> omega)) _) | (with_reducible refine Ext.trans ?_ (by assumption) (fun _ _ e => e))))
          have t0 : (w2.alloc (.cells #[.int .i64 r1, .int .i64 r2] 35)).cell? ⟨w2.heap.size, 0, none⟩ = some (.int .i64 r1) := (Blk.new w2 _ _).cell 0
          have t1 : (w2.alloc (.cells #[.int .i64 r1, .int .i64 r2] 35)).cell? ⟨w2.heap.size, 1, none⟩ = some (.int .i64 r2) := (Blk.new w2 _ _).cell 1
          have u0 : (w2.alloc (.cells #[.int .i64 r1, .int .i64 r2] 35)).cell? ⟨w.heap.size + 1, 0, none⟩ = some (.int .i64 ask.cpu) := (ha2.ext hZ (fun e => e)).cell 0
          have u1 : (w2.alloc (.cells #[.int .i64 r1, .int .i64 r2] 35)).cell? ⟨w.heap.size + 1, 1, none⟩ = some (.int .i64 ask.mem) := (ha2.ext hZ (fun e => e)).cell 1
          have v4 : (w2.alloc (.cells #[.int .i64 r1, .int .i64 r2] 35)).cell? ⟨w.heap.size, 4, none⟩ = some (.slice (some ⟨b, off, none⟩) nN cN) := (hb2.ext hZ (fun e => e)).cell 4
          have n1 : (w2.alloc (.cells #[.int .i64 r1, .int .i64 r2] 35)).cell? ⟨b, off + i * 8 + 1, none⟩ = some (.int .i64 nd.cap.cpu) := (h2.trans hZ (fun _ _ e => e)).cell (hce 1 _ rfl) (fun e => e)
          have n2 : (w2.alloc (.cells #[.int .i64 r1, .int .i64 r2] 35)).cell? ⟨b, off + i * 8 + 2, none⟩ = some (.int .i64 nd.cap.mem) := (h2.trans hZ (fun _ _ e => e)).cell (hce 2 _ rfl) (fun e => e)
          have n2' : (w2.alloc (.cells #[.int .i64 r1, .int .i64 r2] 35)).cell? ⟨b, off + i * 8 + 1 + 1, none⟩ = some (.int .i64 nd.cap.mem) := n2
          have hZw : Ext Nothing w (w2.alloc (.cells #[.int .i64 r1, .int .i64 r2] 35)) := h2.trans hZ (fun _ _ e => e)
          generalize w2.alloc (.cells #[.int .i64 r1, .int .i64 r2] 35) = W at t0 t1 u0 u1 v4 n1 n2 n2' hZw ⊢
          go_still_tail 10, (by kernel_rfl)
          go_wp2_with (go_at_call 55; refine (fits_lit _ _ _ _ _ _ _).mono ?_; rintro e w5 ⟨rfl, hx5⟩; rw [← H.out])
          go_ret
          exact ⟨rfl, by (repeat' (first | (with_reducible assumption) | (with_reducible exact Ext.refl _ _) | (with_reducible refine Ext.alloc ?_ _) | (with_reducible refine Ext.drew ?_) | (with_reducible refine Ext.drewN ?_ _) | (with_reducible refine Ext.setCell ?_ (.inl (by simp only [World.size_alloc, World.size_setCell, World.size_drew] <;> omega)) _) | (with_reducible refine Ext.trans ?_ (by assumption) (fun _ _ e => e))))⟩
end Go.Proofs.YtfmkoemogicdkaaGreat
