/- Life: the reference's clocks: find, goes. -/
import Derived.Test.YtaibifaeljnchaaLifeC
import Derived.StillTailTactics
import Derived.Deep.RegionHeld3
namespace Go.Proofs.Ytaibifaeljnchaa
set_option linter.unusedVariables false
open Go.RowKit
open Go.Maps (Keyed)

def clkC (p : Key × Int) : List Value := [.bool p.1.1, .int .i64 p.1.2.1, .int .i64 p.1.2.2.1, .int .i64 p.1.2.2.2, .int .i64 p.2]
theorem clkC_len (p : Key × Int) : (clkC p).length = 5 := rfl
theorem clkC_map (x : Key × Int) : ∀ u ∈ clkC x, ∀ m, u ≠ .map m := by
  intro u hu m e; subst e; simp [clkC] at hu
theorem aget_first {k : Key} {c : Int} : ∀ {L : List (Key × Int)} {j : Nat}, (∀ i < j, ∀ p, L[i]? = some p → p.1 ≠ k) → L[j]? = some (k, c) → aget k L = some c
  | [], j, _, h => by simp at h
  | p :: r, 0, _, h => by simp at h; subst h; simp [aget]
  | p :: r, j + 1, hn, h => by
    rw [aget, if_neg (hn 0 (by omega) p rfl), aget_first (fun i hi q hq => hn (i + 1) (Nat.succ_lt_succ hi) q (by simpa using hq)) (by simpa using h)]
theorem aget_no {k : Key} {L : List (Key × Int)} (h : ∀ i < L.length, ∀ p, L[i]? = some p → p.1 ≠ k) : aget k L = none :=
  aget_none fun p hp => by
    obtain ⟨i, hi⟩ := List.getElem?_of_mem hp
    exact h i (List.getElem?_eq_some_iff.1 hi).1 p hi

set_option maxHeartbeats 1000000 in
theorem find_any (A : Option Addr) (n cap : Nat) (L : List (Key × Int)) (d : Bool) (id ep sq nn : Int) (w : World) (hl : Sl w 5 A n (L.map clkC)) (hn : n ≤ 1048576 * 4) :
    Calls Try.prog 17 #[.slice A n cap, .agg #[.bool d, .int .i64 id, .int .i64 ep, .int .i64 sq, .int .i64 nn]] w fun e w' =>
      ((∃ (i : Nat) (c : Int), e = .returned (.int .i64 i) ∧ L[i]? = some ((d, id, ep, sq), c) ∧ aget (d, id, ep, sq) L = some c) ∨ (e = .returned (.int .i64 (-1)) ∧ aget (d, id, ep, sq) L = none)) ∧ Ext Nothing w w' := by
  have hlen := Lib.hid hl.len
  have hx0 : Ext Nothing w (w.alloc (.cells #[.bool d, .int .i64 id, .int .i64 ep, .int .i64 sq, .int .i64 nn] 75)) := (Ext.refl _ _).alloc _
  have hb0 : Blk (w.alloc (.cells #[.bool d, .int .i64 id, .int .i64 ep, .int .i64 sq, .int .i64 nn] 75)) w.heap.size 75 #[.bool d, .int .i64 id, .int .i64 ep, .int .i64 sq, .int .i64 nn] := Blk.new' _ _ _ rfl
  go_enter Try.func17, Try.ntmps17
  go_wp2
  go_loopw [5] (fun i wr => ∃ k : Nat, k ≤ n ∧ i = .int .i64 k ∧ (∀ j < k, ∀ p, L[j]? = some p → p.1 ≠ (d, id, ep, sq)) ∧ Blk wr w.heap.size 75 #[.bool d, .int .i64 id, .int .i64 ep, .int .i64 sq, .int .i64 nn] ∧ Ext Nothing w wr)
    (fun i _ => n - (intOf i).toNat)
  case atStart => exact ⟨0, Nat.zero_le _, rfl, fun j hj => absurd hj (by omega), hb0, hx0⟩
  case round =>
    clear hx0 hb0
    obtain ⟨k, hk, rfl, hno, hb, hx⟩ := hrel
    have x0 : wr.cell? ⟨w.heap.size, 0, none⟩ = some (.bool d) := hb.cell 0
    have x1 : wr.cell? ⟨w.heap.size, 1, none⟩ = some (.int .i64 id) := hb.cell 1
    have x2 : wr.cell? ⟨w.heap.size, 2, none⟩ = some (.int .i64 ep) := hb.cell 2
    have x3 : wr.cell? ⟨w.heap.size, 3, none⟩ = some (.int .i64 sq) := hb.cell 3
    by_cases hlt : k < n
    · obtain ⟨hkn, b, off, rfl, hce⟩ := hl.get hx hlt
      have hy : L[k]? = some L[k] := List.getElem?_eq_getElem hkn
      generalize L[k] = y at hce hy
      obtain ⟨⟨yd, yid, yep, ysq⟩, yn⟩ := y
      have c0 : wr.cell? ⟨b, off + k * 5, none⟩ = some (.bool yd) := hce 0 _ rfl
      have c1 : wr.cell? ⟨b, off + k * 5 + 1, none⟩ = some (.int .i64 yid) := hce 1 _ rfl
      have c2 : wr.cell? ⟨b, off + k * 5 + 2, none⟩ = some (.int .i64 yep) := hce 2 _ rfl
      have c3 : wr.cell? ⟨b, off + k * 5 + 3, none⟩ = some (.int .i64 ysq) := hce 3 _ rfl
      have hstep : (yd, yid, yep, ysq) ≠ (d, id, ep, sq) → ∀ j < k + 1, ∀ p, L[j]? = some p → p.1 ≠ (d, id, ep, sq) := fun hne j hj p hp => by
        by_cases hjk : j = k
        · subst hjk; rw [hy] at hp; cases hp; exact hne
        · exact hno j (by omega) p hp
      have hhit : (yd, yid, yep, ysq) = (d, id, ep, sq) → aget (d, id, ep, sq) L = some yn := fun he => aget_first hno (by rw [hy, he])
      have HS := Lib.hid hstep
      have HH := Lib.hid hhit
      have HY := Lib.hid hy
      clear hce hno hstep hhit hy hl
      by_cases e0 : yd = d
      · subst e0
        by_cases e1 : yid = id
        · subst e1
          by_cases e2 : yep = ep
          · subst e2
            by_cases e3 : ysq = sq
            · subst e3
              go_wp2
              go_quiet (fail)
              go_wp2
              go_ret
              exact ⟨.inl ⟨k, yn, rfl, HY.out, HH.out (by first | rfl | trivial)⟩, hx.drewN _⟩
            · have h3 : (ysq == sq) = false := by simpa using e3
              go_wp2
              go_quiet (fail)
              go_wp2
              go_roundw
              case rel => exact ⟨k + 1, by omega, by go_num, HS.out (by simpa using e3), hb, hx.drewN _⟩
              case measure => simp [intOf]; omega
          · have h2 : (yep == ep) = false := by simpa using e2
            go_wp2
            go_quiet (fail)
            go_wp2
            go_roundw
            case rel => exact ⟨k + 1, by omega, by go_num, HS.out (by simp [e2]), hb, hx.drewN _⟩
            case measure => simp [intOf]; omega
        · have h1 : (yid == id) = false := by simpa using e1
          go_wp2
          go_quiet (fail)
          go_wp2
          go_roundw
          case rel => exact ⟨k + 1, by omega, by go_num, HS.out (by simp [e1]), hb, hx.drewN _⟩
          case measure => simp [intOf]; omega
      · have h0 : (yd == d) = false := by simpa using e0
        go_wp2
        go_quiet (fail)
        go_wp2
        go_roundw
        case rel => exact ⟨k + 1, by omega, by go_num, HS.out (by simp [e0]), hb, hx.drewN _⟩
        case measure => simp [intOf]; omega
    · have hkn : L.length ≤ k := by have := hlen.out; omega
      have hres : aget (d, id, ep, sq) L = none := aget_no (fun i hi p hp => hno i (by omega) p hp)
      have HR := Lib.hid hres
      clear hres hno hl
      go_wp2
      go_ret
      exact ⟨.inr ⟨rfl, HR.out⟩, hx⟩

theorem find_yes (A : Option Addr) (n cap : Nat) (L : List (Key × Int)) (d : Bool) (id ep sq nn : Int) (w : World) (hl : Sl w 5 A n (L.map clkC)) (hn : n ≤ 1048576 * 4) (c : Int) (hc : aget (d, id, ep, sq) L = some c) :
    Calls Try.prog 17 #[.slice A n cap, .agg #[.bool d, .int .i64 id, .int .i64 ep, .int .i64 sq, .int .i64 nn]] w fun e w' => ∃ i : Nat, e = .returned (.int .i64 i) ∧ L[i]? = some ((d, id, ep, sq), c) ∧ Ext Nothing w w' := by
  refine (find_any A n cap L d id ep sq nn w hl hn).mono ?_
  rintro e w' ⟨⟨i, c', rfl, h1, h2⟩ | ⟨_, h⟩, hx⟩
  · rw [hc] at h2; cases h2; exact ⟨i, rfl, h1, hx⟩
  · rw [hc] at h; cases h
theorem find_no (A : Option Addr) (n cap : Nat) (L : List (Key × Int)) (d : Bool) (id ep sq nn : Int) (w : World) (hl : Sl w 5 A n (L.map clkC)) (hn : n ≤ 1048576 * 4) (hc : aget (d, id, ep, sq) L = none) :
    Calls Try.prog 17 #[.slice A n cap, .agg #[.bool d, .int .i64 id, .int .i64 ep, .int .i64 sq, .int .i64 nn]] w fun e w' => e = .returned (.int .i64 (-1)) ∧ Ext Nothing w w' := by
  refine (find_any A n cap L d id ep sq nn w hl hn).mono ?_
  rintro e w' ⟨⟨i, c', rfl, h1, h2⟩ | ⟨rfl, h⟩, hx⟩
  · rw [hc] at h2; cases h2
  · exact ⟨rfl, hx⟩

theorem SL54 : SliceT Try.prog 54 75 5 := .of (by kernel_rfl)
theorem ST75 : StructT Try.prog 75 5 := .of (by kernel_rfl)
/-- the reference's clocks behind the pointer to rl are L -/
def RefIs (B : Nat) (w : World) (rl : Nat) (L : List (Key × Int)) : Prop :=
  LOk L ∧ B ≤ rl ∧ L.length ≤ 1048576 * 3 ∧ ∃ A c, Blk w rl 56 #[.slice A L.length c] ∧ Sl w 5 A L.length (L.map clkC)
theorem RefIs.ext0 {B : Nat} {w w' : World} {rl : Nat} {L : List (Key × Int)} (h : RefIs B w rl L) (he : Ext Nothing w w') : RefIs B w' rl L := by
  obtain ⟨h0, h1, h2, A, c, h3, h4⟩ := h
  exact ⟨h0, h1, h2, A, c, h3.ext he (fun e => e), h4.ext0 he⟩

set_option maxHeartbeats 1000000 in
theorem goes_any (B : Nat) (w : World) (rl : Nat) (L N : List (Key × Int)) (hR : RefIs B w rl L) (base : Nat) (A : Option Addr) (cap : Nat) (hown : w.ownsRow base 75 5 (.slice A N.length cap) N.length (N.flatMap clkC)) (hNl : N.length ≤ 1048576 * 3)
    (d : Bool) (id ep sq en : Int) (h1 : 3 < en) (h2 : en < 100) (hbase : base ≤ w.heap.size) :
    Calls Try.prog 16 #[.pointer (some ⟨rl, 0, none⟩), .slice A N.length cap, .agg #[.bool d, .int .i64 id, .int .i64 ep, .int .i64 sq, .int .i64 0], .int .i64 en] w fun e w' =>
      ∃ A' c', e = .returned (.tuple #[.slice A' (goesF L N (d, id, ep, sq) en).1.length c', .bool (goesF L N (d, id, ep, sq) en).2]) ∧
        w'.ownsRow base 75 5 (.slice A' (goesF L N (d, id, ep, sq) en).1.length c') (goesF L N (d, id, ep, sq) en).1.length ((goesF L N (d, id, ep, sq) en).1.flatMap clkC) ∧
        Ext (fun b => Value.ownBlock (.slice A N.length cap) = some b) w w' := by
  obtain ⟨hLo, hB, hLl, AL, cL, hrl, hsl⟩ := hR
  have hx0 : Ext Nothing w (w.alloc (.cells #[.bool d, .int .i64 id, .int .i64 ep, .int .i64 sq, .int .i64 0] 75)) := (Ext.refl _ _).alloc _
  have hb0 : Blk (w.alloc (.cells #[.bool d, .int .i64 id, .int .i64 ep, .int .i64 sq, .int .i64 0] 75)) w.heap.size 75 #[.bool d, .int .i64 id, .int .i64 ep, .int .i64 sq, .int .i64 0] := Blk.new' _ _ _ rfl
  have hsN : Sl w 5 A N.length (N.map clkC) := Sl.of_own clkC_len hown rfl
  cases hin : aget (d, id, ep, sq) N with
  | some cN =>
    have hg : goesF L N (d, id, ep, sq) en = (N, false) := by simp [goesF, hin]
    rw [hg]
    have hI := Lib.hid hin
    clear hin hg
    have hc := Lib.hid (find_yes A N.length cap N d id ep sq 0 _ (hsN.ext0 hx0) (by omega) cN hI.out)
    go_enter Try.func16, Try.ntmps16
    go_wp2_with (first | (refine wpList_load_blk rfl 75 _ rfl ST75 w.heap.size rfl #[.bool d, .int .i64 id, .int .i64 ep, .int .i64 sq, .int .i64 0] (by exact hb0) rfl ?_) | (go_at_call 17; refine hc.out.mono ?_; rintro e w1 ⟨i, rfl, _, hx1⟩))
    go_ret2
    exact ⟨A, cap, rfl, own_ext hown (hx0.trans hx1 (fun _ _ e => e)) (fun _ _ e => e), (hx0.trans hx1 (fun _ _ e => e)).mono (fun _ _ e => e.elim)⟩
  | none =>
    have k1 := Lib.hid (find_no A N.length cap N d id ep sq 0 _ (hsN.ext0 hx0) (by omega) hin)
    have hI := Lib.hid hin
    have hrB := hrl
    have hget : ∀ c, aget (d, id, ep, sq) L = some c → 0 ≤ c ∧ c < 100 := fun c h => hLo.at_ h
    cases hc : aget (d, id, ep, sq) L with
    | none =>
      have hg : goesF L N (d, id, ep, sq) en = (N ++ [((d, id, ep, sq), 0)], false) := by simp [goesF, hin, hc]; omega
      have hC := Lib.hid hc
      have hG := Lib.hid hg
      clear hc hin hg hget
      go_enter Try.func16, Try.ntmps16
      go_wp2_with (first | (refine wpList_load_blk rfl 75 _ rfl ST75 w.heap.size rfl #[.bool d, .int .i64 id, .int .i64 ep, .int .i64 sq, .int .i64 0] (by exact hb0) rfl ?_) | (go_at_call 17; refine k1.out.mono ?_; rintro e w1 ⟨rfl, hx1⟩; have hb1 := hb0.ext hx1 (fun e => e); have hr1 := (hrl.ext hx0 (fun e => e)).ext hx1 (fun e => e); have qr : w1.cell? ⟨rl, 0, none⟩ = some (.slice AL L.length cL) := hr1.cell 0; have y0 : w1.cell? ⟨w.heap.size, 0, none⟩ = some (.bool d) := hb1.cell 0; have y1 : w1.cell? ⟨w.heap.size, 1, none⟩ = some (.int .i64 id) := hb1.cell 1; have y2 : w1.cell? ⟨w.heap.size, 2, none⟩ = some (.int .i64 ep) := hb1.cell 2; have y3 : w1.cell? ⟨w.heap.size, 3, none⟩ = some (.int .i64 sq) := hb1.cell 3; have y4 : w1.cell? ⟨w.heap.size, 4, none⟩ = some (.int .i64 0) := hb1.cell 4))
      go_still_tail 5, (by kernel_rfl)
      change wpList _ _ _ _ _ w1.drew
      have hx2 : Ext Nothing w1 w1.drew := (Ext.refl _ _).drew
      generalize w1.drew = w2 at hx2 ⊢
      go_wp2_with (first | (go_at_call 17; refine (find_no AL L.length cL L d id ep sq 0 w2 ((hsl.ext0 hx0).ext0 (hx1.trans hx2 (fun _ _ e => e))) (by omega) hC.out).mono ?_; rintro e w3 ⟨rfl, hx3⟩; have hx13 : Ext Nothing (w.alloc (.cells #[.bool d, .int .i64 id, .int .i64 ep, .int .i64 sq, .int .i64 0] 75)) w3 := (hx1.trans hx2 (fun _ _ e => e)).trans hx3 (fun _ _ e => e); have hb3 := hb0.ext hx13 (fun e => e); have z4 : w3.cell? ⟨w.heap.size, 4, none⟩ = some (.int .i64 0) := hb3.cell 4) | (refine wpList_load_blk rfl 75 _ rfl ST75 w.heap.size rfl #[.bool d, .int .i64 id, .int .i64 ep, .int .i64 sq, .int .i64 0] (by exact hb3) rfl ?_) | (refine wpList_slice1 rfl 54 _ rfl SL54 #[.bool d, .int .i64 id, .int .i64 ep, .int .i64 sq, .int .i64 0] rfl rfl ?_) | (at_builtin; refine wpList_app1 rfl _ _ 54 rfl base SL54 (.slice A N.length cap) N.length (N.flatMap clkC) rfl ?hown _ _ #[.bool d, .int .i64 id, .int .i64 ep, .int .i64 sq, .int .i64 0] rfl ?hb rfl rfl (by omega) ?hbase ?_))
      case hown => exact own_ext hown ((hx0.trans hx13 (fun _ _ e => e)).alloc _) (fun _ _ e => e)
      case hb => exact Blk.new' _ _ _ rfl
      case hbase => have := hx13.size; simp at this ⊢; omega
      intro A' c' w4 r1 r2
      go_wp2
      go_ret2
      rw [hG.out]
      refine ⟨A', c', by simp; omega, by simpa [clkC] using r1, ?_⟩
      exact ((hx0.trans hx13 (fun _ _ e => e)).mono (fun _ _ e => e.elim)).trans (Ext.grown ((Ext.refl (fun b => Value.ownBlock (.slice A N.length cap) = some b) w3).alloc _) r2 (fun g e => .inr e)) (fun _ _ e => e)
    | some c =>
      obtain ⟨hc0, hc1⟩ := hget c hc
      by_cases hen : en ≤ c + 1
      · have hg : goesF L N (d, id, ep, sq) en = (N ++ [((d, id, ep, sq), en - 3)], true) := by
          have h0 : goesF L N (d, id, ep, sq) en = if en ≤ c + 1 then (N ++ [((d, id, ep, sq), en - 3)], true) else (N ++ [((d, id, ep, sq), c + 1)], false) := by simp [goesF, hin, hc]
          rw [h0, if_pos hen]
        have hC := Lib.hid hc
        have hG := Lib.hid hg
        clear hc hin hg hget
        go_enter Try.func16, Try.ntmps16
        go_wp2_with (first | (refine wpList_load_blk rfl 75 _ rfl ST75 w.heap.size rfl #[.bool d, .int .i64 id, .int .i64 ep, .int .i64 sq, .int .i64 0] (by exact hb0) rfl ?_) | (go_at_call 17; refine k1.out.mono ?_; rintro e w1 ⟨rfl, hx1⟩; have hb1 := hb0.ext hx1 (fun e => e); have hr1 := (hrl.ext hx0 (fun e => e)).ext hx1 (fun e => e); have qr : w1.cell? ⟨rl, 0, none⟩ = some (.slice AL L.length cL) := hr1.cell 0; have y0 : w1.cell? ⟨w.heap.size, 0, none⟩ = some (.bool d) := hb1.cell 0; have y1 : w1.cell? ⟨w.heap.size, 1, none⟩ = some (.int .i64 id) := hb1.cell 1; have y2 : w1.cell? ⟨w.heap.size, 2, none⟩ = some (.int .i64 ep) := hb1.cell 2; have y3 : w1.cell? ⟨w.heap.size, 3, none⟩ = some (.int .i64 sq) := hb1.cell 3; have y4 : w1.cell? ⟨w.heap.size, 4, none⟩ = some (.int .i64 0) := hb1.cell 4))
        go_still_tail 5, (by kernel_rfl)
        change wpList _ _ _ _ _ w1.drew
        have hx2 : Ext Nothing w1 w1.drew := (Ext.refl _ _).drew
        generalize w1.drew = w2 at hx2 ⊢
        go_wp2_with (first | (go_at_call 17; refine (find_yes AL L.length cL L d id ep sq 0 w2 ((hsl.ext0 hx0).ext0 (hx1.trans hx2 (fun _ _ e => e))) (by omega) c hC.out).mono ?_; rintro e w3 ⟨i, rfl, hLi, hx3⟩; have hx13 : Ext Nothing (w.alloc (.cells #[.bool d, .int .i64 id, .int .i64 ep, .int .i64 sq, .int .i64 0] 75)) w3 := (hx1.trans hx2 (fun _ _ e => e)).trans hx3 (fun _ _ e => e); have hb3 := hb0.ext hx13 (fun e => e); have hx03 := hx0.trans hx13 (fun _ _ e => e); have hiL : i < L.length := (List.getElem?_eq_some_iff.1 hLi).1; have hgL := hsl.get hx03 hiL; have hLi' := (List.getElem?_eq_some_iff.1 hLi).2; obtain ⟨_, bL, oL, rfl, hce⟩ := hgL; rw [hLi'] at hce; have zN : w3.cell? ⟨bL, oL + i * 5 + 4, none⟩ = some (.int .i64 c) := hce 4 _ rfl; have zr : w3.cell? ⟨rl, 0, none⟩ = some (.slice (some ⟨bL, oL, none⟩) L.length cL) := (hrl.ext hx03 (fun e => e)).cell 0; have z4 : w3.cell? ⟨w.heap.size, 4, none⟩ = some (.int .i64 0) := hb3.cell 4; have zf : w3.frozen? ⟨w.heap.size, 4, none⟩ = false := hb3.frozen 4; have hbS : Blk (w3.setCell ⟨w.heap.size, 4, none⟩ (.int .i64 (c + 1))) w.heap.size 75 #[.bool d, .int .i64 id, .int .i64 ep, .int .i64 sq, .int .i64 (c + 1)] := hb3.set_ 4 _; have hbT : Blk ((w3.setCell ⟨w.heap.size, 4, none⟩ (.int .i64 (c + 1))).setCell ⟨w.heap.size, 4, none⟩ (.int .i64 (en - 3))) w.heap.size 75 #[.bool d, .int .i64 id, .int .i64 ep, .int .i64 sq, .int .i64 (en - 3)] := hbS.set_ 4 _; clear hLi hLi' hce qr y0 y1 y2 y3 y4) | (refine wpList_load_blk rfl 75 _ rfl ST75 w.heap.size rfl #[.bool d, .int .i64 id, .int .i64 ep, .int .i64 sq, .int .i64 (en - 3)] (by exact hbT) rfl ?_) | (refine wpList_slice1 rfl 54 _ rfl SL54 #[.bool d, .int .i64 id, .int .i64 ep, .int .i64 sq, .int .i64 (en - 3)] rfl rfl ?_) | (at_builtin; refine wpList_app1 rfl _ _ 54 rfl base SL54 (.slice A N.length cap) N.length (N.flatMap clkC) rfl ?hown _ _ #[.bool d, .int .i64 id, .int .i64 ep, .int .i64 sq, .int .i64 (en - 3)] rfl ?hb rfl rfl (by omega) ?hbase ?_))
        case hown => exact own_ext hown (Ext.alloc ((hx03.setCell (p := ⟨w.heap.size, 4, none⟩) (.inl (Nat.le_refl _)) _).setCell (p := ⟨w.heap.size, 4, none⟩) (.inl (Nat.le_refl _)) _) _) (fun _ _ e => e)
        case hb => exact Blk.new' _ _ _ (by simp)
        case hbase => have := hx03.size; simp [World.setCell]; omega
        intro A' c' w4 r1 r2
        go_wp2
        go_ret2
        rw [hG.out]
        refine ⟨A', c', by first | (simp; done) | (simp; omega), by simpa [clkC] using r1, ?_⟩
        exact ((((hx03.setCell (p := ⟨w.heap.size, 4, none⟩) (.inl (Nat.le_refl _)) _).setCell (p := ⟨w.heap.size, 4, none⟩) (.inl (Nat.le_refl _)) _) : Ext Nothing w ((w3.setCell ⟨w.heap.size, 4, none⟩ (.int .i64 (c + 1))).setCell ⟨w.heap.size, 4, none⟩ (.int .i64 (en - 3)))).mono (fun _ _ e => e.elim)).trans (Ext.grown ((Ext.refl (fun b => Value.ownBlock (.slice A N.length cap) = some b) _).alloc _) r2 (fun g e => .inr e)) (fun _ _ e => e)
      · have hg : goesF L N (d, id, ep, sq) en = (N ++ [((d, id, ep, sq), c + 1)], false) := by
          have h0 : goesF L N (d, id, ep, sq) en = if en ≤ c + 1 then (N ++ [((d, id, ep, sq), en - 3)], true) else (N ++ [((d, id, ep, sq), c + 1)], false) := by simp [goesF, hin, hc]
          rw [h0, if_neg hen]
        have hC := Lib.hid hc
        have hG := Lib.hid hg
        clear hc hin hg hget
        go_enter Try.func16, Try.ntmps16
        go_wp2_with (first | (refine wpList_load_blk rfl 75 _ rfl ST75 w.heap.size rfl #[.bool d, .int .i64 id, .int .i64 ep, .int .i64 sq, .int .i64 0] (by exact hb0) rfl ?_) | (go_at_call 17; refine k1.out.mono ?_; rintro e w1 ⟨rfl, hx1⟩; have hb1 := hb0.ext hx1 (fun e => e); have hr1 := (hrl.ext hx0 (fun e => e)).ext hx1 (fun e => e); have qr : w1.cell? ⟨rl, 0, none⟩ = some (.slice AL L.length cL) := hr1.cell 0; have y0 : w1.cell? ⟨w.heap.size, 0, none⟩ = some (.bool d) := hb1.cell 0; have y1 : w1.cell? ⟨w.heap.size, 1, none⟩ = some (.int .i64 id) := hb1.cell 1; have y2 : w1.cell? ⟨w.heap.size, 2, none⟩ = some (.int .i64 ep) := hb1.cell 2; have y3 : w1.cell? ⟨w.heap.size, 3, none⟩ = some (.int .i64 sq) := hb1.cell 3; have y4 : w1.cell? ⟨w.heap.size, 4, none⟩ = some (.int .i64 0) := hb1.cell 4))
        go_still_tail 5, (by kernel_rfl)
        change wpList _ _ _ _ _ w1.drew
        have hx2 : Ext Nothing w1 w1.drew := (Ext.refl _ _).drew
        generalize w1.drew = w2 at hx2 ⊢
        go_wp2_with (first | (go_at_call 17; refine (find_yes AL L.length cL L d id ep sq 0 w2 ((hsl.ext0 hx0).ext0 (hx1.trans hx2 (fun _ _ e => e))) (by omega) c hC.out).mono ?_; rintro e w3 ⟨i, rfl, hLi, hx3⟩; have hx13 : Ext Nothing (w.alloc (.cells #[.bool d, .int .i64 id, .int .i64 ep, .int .i64 sq, .int .i64 0] 75)) w3 := (hx1.trans hx2 (fun _ _ e => e)).trans hx3 (fun _ _ e => e); have hb3 := hb0.ext hx13 (fun e => e); have hx03 := hx0.trans hx13 (fun _ _ e => e); have hiL : i < L.length := (List.getElem?_eq_some_iff.1 hLi).1; have hgL := hsl.get hx03 hiL; have hLi' := (List.getElem?_eq_some_iff.1 hLi).2; obtain ⟨_, bL, oL, rfl, hce⟩ := hgL; rw [hLi'] at hce; have zN : w3.cell? ⟨bL, oL + i * 5 + 4, none⟩ = some (.int .i64 c) := hce 4 _ rfl; have zr : w3.cell? ⟨rl, 0, none⟩ = some (.slice (some ⟨bL, oL, none⟩) L.length cL) := (hrl.ext hx03 (fun e => e)).cell 0; have z4 : w3.cell? ⟨w.heap.size, 4, none⟩ = some (.int .i64 0) := hb3.cell 4; have zf : w3.frozen? ⟨w.heap.size, 4, none⟩ = false := hb3.frozen 4; have hbS : Blk (w3.setCell ⟨w.heap.size, 4, none⟩ (.int .i64 (c + 1))) w.heap.size 75 #[.bool d, .int .i64 id, .int .i64 ep, .int .i64 sq, .int .i64 (c + 1)] := hb3.set_ 4 _; clear hLi hLi' hce qr y0 y1 y2 y3 y4) | (refine wpList_load_blk rfl 75 _ rfl ST75 w.heap.size rfl #[.bool d, .int .i64 id, .int .i64 ep, .int .i64 sq, .int .i64 (c + 1)] (by exact hbS) rfl ?_) | (refine wpList_slice1 rfl 54 _ rfl SL54 #[.bool d, .int .i64 id, .int .i64 ep, .int .i64 sq, .int .i64 (c + 1)] rfl rfl ?_) | (at_builtin; refine wpList_app1 rfl _ _ 54 rfl base SL54 (.slice A N.length cap) N.length (N.flatMap clkC) rfl ?hown _ _ #[.bool d, .int .i64 id, .int .i64 ep, .int .i64 sq, .int .i64 (c + 1)] rfl ?hb rfl rfl (by omega) ?hbase ?_))
        case hown => exact own_ext hown (Ext.alloc (hx03.setCell (p := ⟨w.heap.size, 4, none⟩) (.inl (Nat.le_refl _)) _) _) (fun _ _ e => e)
        case hb => exact Blk.new' _ _ _ (by simp)
        case hbase => have := hx03.size; simp [World.setCell]; omega
        intro A' c' w4 r1 r2
        go_wp2
        go_ret2
        rw [hG.out]
        refine ⟨A', c', by first | (simp; done) | (simp; omega), by simpa [clkC] using r1, ?_⟩
        exact (((hx03.setCell (p := ⟨w.heap.size, 4, none⟩) (.inl (Nat.le_refl _)) _) : Ext Nothing w (w3.setCell ⟨w.heap.size, 4, none⟩ (.int .i64 (c + 1)))).mono (fun _ _ e => e.elim)).trans (Ext.grown ((Ext.refl (fun b => Value.ownBlock (.slice A N.length cap) = some b) _).alloc _) r2 (fun g e => .inr e)) (fun _ _ e => e)
end Go.Proofs.Ytaibifaeljnchaa
