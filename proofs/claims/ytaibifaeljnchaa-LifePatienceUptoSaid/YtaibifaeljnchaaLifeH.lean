/- Life: LifePlays's walk. -/
import Derived.Test.YtaibifaeljnchaaLifeG
namespace Go.Proofs.Ytaibifaeljnchaa
set_option linter.unusedVariables false
open Go.RowKit
open Go.Maps (Keyed)

structure BeatD where
  lead : Bool
  times : Int
  A1 : Option Addr
  n1 : Nat
  c1 : Nat
  ns : List NodeD
  A2 : Option Addr
  n2 : Nat
  c2 : Nat
  ds : List DeployD
def BeatD.cells (x : BeatD) : List Value := [.bool x.lead, .int .i64 x.times, .slice x.A1 x.n1 x.c1, .slice x.A2 x.n2 x.c2]
structure BeatD.ok (w : World) (x : BeatD) : Prop where
  t : InR x.times
  n : Sl w 8 x.A1 x.n1 (x.ns.map NodeD.cells)
  d : Sl w 4 x.A2 x.n2 (x.ds.map DeployD.cells)
  nok : ∀ y ∈ x.ns, y.ok
  dok : ∀ y ∈ x.ds, y.ok
  ln : x.n1 ≤ 1048576
  ld : x.n2 ≤ 1048576
/-- both have the same clocks -/
structure Both (B : Nat) (w wr : World) (bl rl : Nat) (L : List (Key × Int)) : Prop where
  a : LifeFrom B wr bl L
  r : RefIs B wr rl L
  ext : Ext Nothing w wr
  le : B ≤ wr.heap.size
theorem Both.ext0 {B : Nat} {w wr w' : World} {bl rl : Nat} {L : List (Key × Int)} (h : Both B w wr bl rl L) (he : Ext Nothing wr w') : Both B w w' bl rl L :=
  ⟨h.a.ext0 he, h.r.ext0 he, h.ext.trans he (fun _ _ e => e), Nat.le_trans h.le he.size⟩
theorem Both.led {w wr w2 w3 : World} {bl rl : Nat} {L : List (Key × Int)} (h : Both w.heap.size w wr bl rl L) (ha : LifeFrom w.heap.size w2 bl []) (hm : OnlyMap w.heap.size wr w2) (hr : RefIs w.heap.size w3 rl []) (hx : Ext (fun b => b = rl) w2 w3) : Both w.heap.size w w3 bl rl [] := by
  obtain ⟨m, es, c, hm1, hm2, hm3⟩ := hm
  have hr2 := h.r.keep_map hm2 hm3
  obtain ⟨_, h1, _, A, c, h2, _⟩ := hr2
  have hx2 := h.ext.trans hm3 (fun b hb e => by omega)
  exact ⟨ha.ext1 hx h2 (by decide), hr, hx2.trans hx (fun b hb e => by omega), Nat.le_trans h.le (Nat.le_trans hm3.size hx.size)⟩
theorem OnlyMap.ref {B : Nat} {w w' : World} {rl : Nat} {L : List (Key × Int)} (hm : OnlyMap B w w') (h : RefIs B w rl L) : RefIs B w' rl L := by
  obtain ⟨m, es, c, hm1, hm2, hm3⟩ := hm
  exact h.keep_map hm2 hm3
theorem RefIs.lt {B : Nat} {w : World} {rl : Nat} {L : List (Key × Int)} (h : RefIs B w rl L) : rl < w.heap.size := by
  obtain ⟨h0, h1, h2, A, c, h3, h4⟩ := h
  exact Blk.lt h3
theorem S9 {W : World} {g : Nat} {A1 A2 : Option Addr} {n1 n2 c1 c2 : Nat} (h : Blk W g 35 #[.int .i64 0, .int .i64 0, .slice none 0 0, .slice none 0 0, .slice A1 n1 c1, .slice none 0 0, .slice none 0 0, .slice A2 n2 c2, .slice none 0 0]) : W.cell? ⟨g, 0, none⟩ = some (.int .i64 0) ∧ W.cell? ⟨g, 1, none⟩ = some (.int .i64 0) ∧ W.cell? ⟨g, 2, none⟩ = some (.slice none 0 0) ∧ W.cell? ⟨g, 3, none⟩ = some (.slice none 0 0) ∧ W.cell? ⟨g, 4, none⟩ = some (.slice A1 n1 c1) ∧ W.cell? ⟨g, 5, none⟩ = some (.slice none 0 0) ∧ W.cell? ⟨g, 6, none⟩ = some (.slice none 0 0) ∧ W.cell? ⟨g, 7, none⟩ = some (.slice A2 n2 c2) ∧ W.cell? ⟨g, 8, none⟩ = some (.slice none 0 0) :=
  ⟨h.cell 0, h.cell 1, h.cell 2, h.cell 3, h.cell 4, h.cell 5, h.cell 6, h.cell 7, h.cell 8⟩
theorem rtick_from (B : Nat) (w : World) (rl bl : Nat) (L M : List (Key × Int)) (hR : RefIs B w rl L) (hB : LifeFrom B w bl M)
    (A1 A2 : Option Addr) (n1 n2 c1 c2 : Nat) (ns : List NodeD) (ds : List DeployD) (hn : Sl w 8 A1 n1 (ns.map NodeD.cells)) (hd : Sl w 4 A2 n2 (ds.map DeployD.cells))
    (hl1 : n1 ≤ 1048576) (hl2 : n2 ≤ 1048576) (s0 s1 s2 s3 s5 s6 s8 : Value) (L' : List (Key × Int)) (q : List Ask) (hs : tickF L ns ds = (L', q)) (A0 : Option Addr) (hA0 : Sl w 27 A0 q.length (q.map Ask.cells)) :
    Calls Try.prog 13 #[.pointer (some ⟨rl, 0, none⟩), .agg #[s0, s1, s2, s3, .slice A1 n1 c1, s5, s6, .slice A2 n2 c2, s8]] w fun e w' =>
      ∃ A c, e = .returned (.slice A q.length c) ∧ Ext (fun b => b = rl) w w' ∧ RefIs B w' rl L' ∧ LifeFrom B w' bl M ∧ Sl w' 27 A q.length (q.map Ask.cells) ∧ Sl w' 27 A0 q.length (q.map Ask.cells) := by
  have h := rtick_any B w rl L hR A1 A2 n1 n2 c1 c2 ns ds hn hd hl1 hl2 s0 s1 s2 s3 s5 s6 s8
  rw [hs] at h
  refine h.mono ?_
  rintro e w' ⟨A, c, rfl, hx, hr, ha⟩
  obtain ⟨_, h1, _, AR, cR, h2, _⟩ := hR
  refine ⟨A, c, rfl, hx, hr, hB.ext1 hx h2 (by decide), ha, hA0.ext hx (hA0.ne1 (S := Nothing) (w' := w) h2 (by decide) ?_)⟩
  intro y hy u hu i
  obtain ⟨a, _, rfl⟩ := List.mem_map.1 hy
  have hu' : Value.int .i64 a.op = u := by simpa [Ask.cells] using hu
  subst hu'
  rcases i with _ | i <;> simp
theorem tickF_len (L : List (Key × Int)) (ns : List NodeD) (ds : List DeployD) : (tickF L ns ds).2.length ≤ ns.length + ds.length := by
  have h1 := foldl_len (stepN_len L) ns ([], [])
  have h2 := foldl_len (stepD_len L) ds (ns.foldl (stepN L) ([], []))
  simp only [List.length_nil] at h1
  unfold tickF; omega

set_option maxRecDepth 100000 in
set_option maxHeartbeats 4000000 in
theorem plays_any (w : World) (A : Option Addr) (n cap : Nat) (l : List BeatD) (hl : Sl w 4 A n (l.map BeatD.cells)) (hlok : ∀ x ∈ l, x.ok w) (hn : n ≤ 1048576) :
    Calls Try.prog 4 #[.slice A n cap] w fun e w' => e = .returned (.bool true) ∧ Ext Nothing w w' := by
  go_enter Try.func4, Try.ntmps4
  go_wp2_with (go_at_call 6; refine (new_from _).mono ?_; rintro e w1 ⟨rfl, hL, hx1⟩)
  have hrl0 : w.heap.size ≤ w1.heap.size := hx1.size
  have hst : Both w.heap.size w (w1.alloc (.cells #[.slice none 0 0] 56)) (w.heap.size + 1) w1.heap.size [] :=
    ⟨hL.ext0 ((Ext.refl _ _).alloc _), ⟨fun p hp => by simp at hp, hx1.size, by simp, none, 0, Blk.new' _ _ _ rfl, Sl.nil _ _ _⟩, hx1.alloc _, by have := hx1.size; simp; omega⟩
  go_loopw [5] (fun i wr => ∃ (k : Nat) (L : List (Key × Int)), k ≤ n ∧ i = .int .i64 k ∧ Both w.heap.size w wr (w.heap.size + 1) w1.heap.size L) (fun i _ => n - (intOf i).toNat)
  case atStart => exact ⟨0, [], Nat.zero_le _, rfl, hst⟩
  case round =>
    clear hst hL hx1
    obtain ⟨k, L, hk, rfl, hB⟩ := hrel
    obtain ⟨wo, rfl⟩ : ∃ wo : World, wo = wr := ⟨_, rfl⟩
    by_cases hlt : k < n
    · obtain ⟨hkn, b, off, rfl, hce⟩ := hl.get (Ext.refl Nothing w) hlt
      have hxok := hlok _ (List.getElem_mem hkn)
      generalize l[k] = x at hce hxok
      have z0 : wo.cell? ⟨b, off + k * 4, none⟩ = some (.bool x.lead) := hB.ext.cell (hce 0 _ rfl) (fun e => e)
      cases hlead : x.lead with
      | true =>
        rw [hlead] at z0
        have HLD := Lib.hid hlead
        clear hlead
        go_wp2_with (first | (go_at_call 10; refine (lead_any _ _ _ _ hB.a).mono ?_; rintro e w2 ⟨rfl, ha2, hm⟩) | (go_at_call 11; refine (rlead_any w.heap.size _ _ _ (hm.ref hB.r)).mono ?_; rintro e w3 ⟨rfl, hr3, hx3⟩))
        have hB3 := hB.led ha2 hm hr3 hx3
        clear hB ha2 hm hr3 hx3 z0
        have z2 : w3.cell? ⟨b, off + k * 4 + 2, none⟩ = some (.slice x.A1 x.n1 x.c1) := hB3.ext.cell (hce 2 _ rfl) (fun e => e)
        have z3 : w3.cell? ⟨b, off + k * 4 + 3, none⟩ = some (.slice x.A2 x.n2 x.c2) := hB3.ext.cell (hce 3 _ rfl) (fun e => e)
        have zz2 : (w3.alloc (.cells #[.int .i64 0, .int .i64 0, .slice none 0 0, .slice none 0 0, .slice none 0 0, .slice none 0 0, .slice none 0 0, .slice none 0 0, .slice none 0 0] 35)).cell? ⟨b, off + k * 4 + 2, none⟩ = some (.slice x.A1 x.n1 x.c1) := Ext.cell ((Ext.refl Nothing _).alloc _) z2 (fun e => e)
        have zz3 : (w3.alloc (.cells #[.int .i64 0, .int .i64 0, .slice none 0 0, .slice none 0 0, .slice none 0 0, .slice none 0 0, .slice none 0 0, .slice none 0 0, .slice none 0 0] 35)).cell? ⟨b, off + k * 4 + 3, none⟩ = some (.slice x.A2 x.n2 x.c2) := Ext.cell ((Ext.refl Nothing _).alloc _) z3 (fun e => e)
        go_region
        have hB4 : Both w.heap.size w ((w3.alloc (.cells #[.int .i64 0, .int .i64 0, .slice none 0 0, .slice none 0 0, .slice x.A1 x.n1 x.c1, .slice none 0 0, .slice none 0 0, .slice x.A2 x.n2 x.c2, .slice none 0 0] 35)).drew) (w.heap.size + 1) w1.heap.size _ := hB3.ext0 (((Ext.refl _ _).alloc _).drew)
        have hs4 : Blk ((w3.alloc (.cells #[.int .i64 0, .int .i64 0, .slice none 0 0, .slice none 0 0, .slice x.A1 x.n1 x.c1, .slice none 0 0, .slice none 0 0, .slice x.A2 x.n2 x.c2, .slice none 0 0] 35)).drew) w3.heap.size 35 #[.int .i64 0, .int .i64 0, .slice none 0 0, .slice none 0 0, .slice x.A1 x.n1 x.c1, .slice none 0 0, .slice none 0 0, .slice x.A2 x.n2 x.c2, .slice none 0 0] := Blk.new' _ _ _ rfl
        have hw3 : w.heap.size ≤ w3.heap.size := hB3.ext.size
        have hbl3 : w.heap.size + 1 < w3.heap.size := hB3.a.life.lt
        have hrl3 : w1.heap.size < w3.heap.size := hB3.r.lt
        go_wp2
        go_loopw [7] (fun i wr => ∃ (t : Nat) (L : List (Key × Int)), t ≤ 50 ∧ i = .int .i64 t ∧ Both w.heap.size w wr (w.heap.size + 1) w1.heap.size L ∧ Blk wr w3.heap.size 35 #[.int .i64 0, .int .i64 0, .slice none 0 0, .slice none 0 0, .slice x.A1 x.n1 x.c1, .slice none 0 0, .slice none 0 0, .slice x.A2 x.n2 x.c2, .slice none 0 0]) (fun i _ => 60 - (intOf i).toNat)
        case atStart => exact ⟨0, _, by omega, rfl, hB4, hs4⟩
        case round =>
          clear hB4 hs4 hB3 z2 z3 zz2 zz3
          obtain ⟨t, L2, ht, rfl, hB, hs⟩ := hrel
          have z1 : wr.cell? ⟨b, off + k * 4 + 1, none⟩ = some (.int .i64 x.times) := hB.ext.cell (hce 1 _ rfl) (fun e => e)
          go_wp2_with (go_at_call 7; refine (pick_any x.times 45 _ (by decide) (by decide) hxok.t).mono ?_; rintro e w' ⟨⟨p, rfl, hp⟩, rfl⟩)
          · have hBd : Both w.heap.size w wr.drew (w.heap.size + 1) w1.heap.size L2 := hB.ext0 (Ext.refl _ _).drew
            have hsd : Blk wr.drew w3.heap.size 35 #[.int .i64 0, .int .i64 0, .slice none 0 0, .slice none 0 0, .slice x.A1 x.n1 x.c1, .slice none 0 0, .slice none 0 0, .slice x.A2 x.n2 x.c2, .slice none 0 0] := hs
            obtain ⟨L', q, hT⟩ : ∃ L' q, tickF L2 x.ns x.ds = (L', q) := ⟨_, _, rfl⟩
            have hq : q.length ≤ 1048576 * 4 := by
              have h1 := tickF_len L2 x.ns x.ds
              rw [hT] at h1
              have h2 := hxok.n.len
              have h3 := hxok.d.len
              have h4 := hxok.ln
              have h5 := hxok.ld
              simp only at h1
              omega
            have HT := Lib.hid hT
            clear hT
            have gb : ¬ w3.heap.size = w.heap.size + 1 := by omega
            have gr : ¬ w3.heap.size = w1.heap.size := by omega
            go_region_held3 (fun W => W.cell? ⟨w3.heap.size, 0, none⟩ = some (.int .i64 0) ∧ W.cell? ⟨w3.heap.size, 1, none⟩ = some (.int .i64 0) ∧ W.cell? ⟨w3.heap.size, 2, none⟩ = some (.slice none 0 0) ∧ W.cell? ⟨w3.heap.size, 3, none⟩ = some (.slice none 0 0) ∧ W.cell? ⟨w3.heap.size, 4, none⟩ = some (.slice x.A1 x.n1 x.c1) ∧ W.cell? ⟨w3.heap.size, 5, none⟩ = some (.slice none 0 0) ∧ W.cell? ⟨w3.heap.size, 6, none⟩ = some (.slice none 0 0) ∧ W.cell? ⟨w3.heap.size, 7, none⟩ = some (.slice x.A2 x.n2 x.c2) ∧ W.cell? ⟨w3.heap.size, 8, none⟩ = some (.slice none 0 0)) (first | exact S9 hsd | exact S9 hb5 | exact S9 hb6 | exact S9 hb7) (first | (go_at_call 8; refine (tick_from w.heap.size _ (w.heap.size + 1) L2 hBd.a x.A1 x.A2 x.n1 x.n2 x.c1 x.c2 x.ns x.ds (hxok.n.ext0 hBd.ext) (hxok.d.ext0 hBd.ext) hxok.nok hxok.dok hxok.ln hxok.ld _ _ _ _ _ _ _ L' q HT.out hBd.le).mono ?_; rintro e w5 ⟨A5, c5, rfl, hx5, ha5, hs5⟩; have hb5 := hsd.ext hx5 gb; have hr5 := hBd.r.ext1 hBd.a hx5; have hx05 := hBd.ext.trans hx5 (fun b hb e => by omega)) | (go_at_call 13; refine (rtick_from w.heap.size _ w1.heap.size (w.heap.size + 1) L2 L' hr5 ha5 x.A1 x.A2 x.n1 x.n2 x.c1 x.c2 x.ns x.ds (hxok.n.ext0 hx05) (hxok.d.ext0 hx05) hxok.ln hxok.ld _ _ _ _ _ _ _ L' q HT.out _ hs5).mono ?_; rintro e w6 ⟨A6, c6, rfl, hx6, hr6, ha6, hs6, hs56⟩; have hb6 := hb5.ext hx6 gr) | (go_at_call 12; refine (cmds_any _ _ _ _ _ _ q hs56 hs6 hq).mono ?_; rintro e w7 ⟨rfl, hx7⟩; have hb7 := hb6.ext hx7 (fun e => e)))
            go_wp2
            have hx06 := hx05.trans hx6 (fun b hb e => by have := hrl0; omega)
            have hx07 := hx06.trans hx7 (fun _ _ e => e)
            go_roundw
            case rel => exact ⟨t + 1, L', by omega, by go_num, ⟨ha6.ext0 hx7, hr6.ext0 hx7, hx07, hx07.size⟩, hb7⟩
            case measure => simp [intOf]; omega
          · go_roundw
            case rel => exact ⟨k + 1, L2, by omega, by go_num, hB⟩
            case measure => simp [intOf]; omega
      | false =>
        rw [hlead] at z0
        have HLD := Lib.hid hlead
        clear hlead
        go_wp2
        obtain ⟨w3, hw3⟩ : ∃ w3, w3 = wo := ⟨_, rfl⟩
        have hB3 := hB
        rw [← hw3] at hB3 ⊢
        clear hB z0 hw3
        have z2 : w3.cell? ⟨b, off + k * 4 + 2, none⟩ = some (.slice x.A1 x.n1 x.c1) := hB3.ext.cell (hce 2 _ rfl) (fun e => e)
        have z3 : w3.cell? ⟨b, off + k * 4 + 3, none⟩ = some (.slice x.A2 x.n2 x.c2) := hB3.ext.cell (hce 3 _ rfl) (fun e => e)
        have zz2 : (w3.alloc (.cells #[.int .i64 0, .int .i64 0, .slice none 0 0, .slice none 0 0, .slice none 0 0, .slice none 0 0, .slice none 0 0, .slice none 0 0, .slice none 0 0] 35)).cell? ⟨b, off + k * 4 + 2, none⟩ = some (.slice x.A1 x.n1 x.c1) := Ext.cell ((Ext.refl Nothing _).alloc _) z2 (fun e => e)
        have zz3 : (w3.alloc (.cells #[.int .i64 0, .int .i64 0, .slice none 0 0, .slice none 0 0, .slice none 0 0, .slice none 0 0, .slice none 0 0, .slice none 0 0, .slice none 0 0] 35)).cell? ⟨b, off + k * 4 + 3, none⟩ = some (.slice x.A2 x.n2 x.c2) := Ext.cell ((Ext.refl Nothing _).alloc _) z3 (fun e => e)
        go_region
        have hB4 : Both w.heap.size w ((w3.alloc (.cells #[.int .i64 0, .int .i64 0, .slice none 0 0, .slice none 0 0, .slice x.A1 x.n1 x.c1, .slice none 0 0, .slice none 0 0, .slice x.A2 x.n2 x.c2, .slice none 0 0] 35)).drew) (w.heap.size + 1) w1.heap.size _ := hB3.ext0 (((Ext.refl _ _).alloc _).drew)
        have hs4 : Blk ((w3.alloc (.cells #[.int .i64 0, .int .i64 0, .slice none 0 0, .slice none 0 0, .slice x.A1 x.n1 x.c1, .slice none 0 0, .slice none 0 0, .slice x.A2 x.n2 x.c2, .slice none 0 0] 35)).drew) w3.heap.size 35 #[.int .i64 0, .int .i64 0, .slice none 0 0, .slice none 0 0, .slice x.A1 x.n1 x.c1, .slice none 0 0, .slice none 0 0, .slice x.A2 x.n2 x.c2, .slice none 0 0] := Blk.new' _ _ _ rfl
        have hw3 : w.heap.size ≤ w3.heap.size := hB3.ext.size
        have hbl3 : w.heap.size + 1 < w3.heap.size := hB3.a.life.lt
        have hrl3 : w1.heap.size < w3.heap.size := hB3.r.lt
        go_wp2
        go_loopw [7] (fun i wr => ∃ (t : Nat) (L : List (Key × Int)), t ≤ 50 ∧ i = .int .i64 t ∧ Both w.heap.size w wr (w.heap.size + 1) w1.heap.size L ∧ Blk wr w3.heap.size 35 #[.int .i64 0, .int .i64 0, .slice none 0 0, .slice none 0 0, .slice x.A1 x.n1 x.c1, .slice none 0 0, .slice none 0 0, .slice x.A2 x.n2 x.c2, .slice none 0 0]) (fun i _ => 60 - (intOf i).toNat)
        case atStart => exact ⟨0, _, by omega, rfl, hB4, hs4⟩
        case round =>
          clear hB4 hs4 hB3 z2 z3 zz2 zz3
          obtain ⟨t, L2, ht, rfl, hB, hs⟩ := hrel
          have z1 : wr.cell? ⟨b, off + k * 4 + 1, none⟩ = some (.int .i64 x.times) := hB.ext.cell (hce 1 _ rfl) (fun e => e)
          go_wp2_with (go_at_call 7; refine (pick_any x.times 45 _ (by decide) (by decide) hxok.t).mono ?_; rintro e w' ⟨⟨p, rfl, hp⟩, rfl⟩)
          · have hBd : Both w.heap.size w wr.drew (w.heap.size + 1) w1.heap.size L2 := hB.ext0 (Ext.refl _ _).drew
            have hsd : Blk wr.drew w3.heap.size 35 #[.int .i64 0, .int .i64 0, .slice none 0 0, .slice none 0 0, .slice x.A1 x.n1 x.c1, .slice none 0 0, .slice none 0 0, .slice x.A2 x.n2 x.c2, .slice none 0 0] := hs
            obtain ⟨L', q, hT⟩ : ∃ L' q, tickF L2 x.ns x.ds = (L', q) := ⟨_, _, rfl⟩
            have hq : q.length ≤ 1048576 * 4 := by
              have h1 := tickF_len L2 x.ns x.ds
              rw [hT] at h1
              have h2 := hxok.n.len
              have h3 := hxok.d.len
              have h4 := hxok.ln
              have h5 := hxok.ld
              simp only at h1
              omega
            have HT := Lib.hid hT
            clear hT
            have gb : ¬ w3.heap.size = w.heap.size + 1 := by omega
            have gr : ¬ w3.heap.size = w1.heap.size := by omega
            go_region_held3 (fun W => W.cell? ⟨w3.heap.size, 0, none⟩ = some (.int .i64 0) ∧ W.cell? ⟨w3.heap.size, 1, none⟩ = some (.int .i64 0) ∧ W.cell? ⟨w3.heap.size, 2, none⟩ = some (.slice none 0 0) ∧ W.cell? ⟨w3.heap.size, 3, none⟩ = some (.slice none 0 0) ∧ W.cell? ⟨w3.heap.size, 4, none⟩ = some (.slice x.A1 x.n1 x.c1) ∧ W.cell? ⟨w3.heap.size, 5, none⟩ = some (.slice none 0 0) ∧ W.cell? ⟨w3.heap.size, 6, none⟩ = some (.slice none 0 0) ∧ W.cell? ⟨w3.heap.size, 7, none⟩ = some (.slice x.A2 x.n2 x.c2) ∧ W.cell? ⟨w3.heap.size, 8, none⟩ = some (.slice none 0 0)) (first | exact S9 hsd | exact S9 hb5 | exact S9 hb6 | exact S9 hb7) (first | (go_at_call 8; refine (tick_from w.heap.size _ (w.heap.size + 1) L2 hBd.a x.A1 x.A2 x.n1 x.n2 x.c1 x.c2 x.ns x.ds (hxok.n.ext0 hBd.ext) (hxok.d.ext0 hBd.ext) hxok.nok hxok.dok hxok.ln hxok.ld _ _ _ _ _ _ _ L' q HT.out hBd.le).mono ?_; rintro e w5 ⟨A5, c5, rfl, hx5, ha5, hs5⟩; have hb5 := hsd.ext hx5 gb; have hr5 := hBd.r.ext1 hBd.a hx5; have hx05 := hBd.ext.trans hx5 (fun b hb e => by omega)) | (go_at_call 13; refine (rtick_from w.heap.size _ w1.heap.size (w.heap.size + 1) L2 L' hr5 ha5 x.A1 x.A2 x.n1 x.n2 x.c1 x.c2 x.ns x.ds (hxok.n.ext0 hx05) (hxok.d.ext0 hx05) hxok.ln hxok.ld _ _ _ _ _ _ _ L' q HT.out _ hs5).mono ?_; rintro e w6 ⟨A6, c6, rfl, hx6, hr6, ha6, hs6, hs56⟩; have hb6 := hb5.ext hx6 gr) | (go_at_call 12; refine (cmds_any _ _ _ _ _ _ q hs56 hs6 hq).mono ?_; rintro e w7 ⟨rfl, hx7⟩; have hb7 := hb6.ext hx7 (fun e => e)))
            go_wp2
            have hx06 := hx05.trans hx6 (fun b hb e => by have := hrl0; omega)
            have hx07 := hx06.trans hx7 (fun _ _ e => e)
            go_roundw
            case rel => exact ⟨t + 1, L', by omega, by go_num, ⟨ha6.ext0 hx7, hr6.ext0 hx7, hx07, hx07.size⟩, hb7⟩
            case measure => simp [intOf]; omega
          · go_roundw
            case rel => exact ⟨k + 1, L2, by omega, by go_num, hB⟩
            case measure => simp [intOf]; omega
    · go_wp2_with (go_at_call 9; refine (lives_any _).mono ?_; rintro e w' ⟨rfl, hx⟩)
      go_ret
      exact ⟨rfl, hB.ext.trans hx (fun _ _ e => e)⟩
end Go.Proofs.Ytaibifaeljnchaa
