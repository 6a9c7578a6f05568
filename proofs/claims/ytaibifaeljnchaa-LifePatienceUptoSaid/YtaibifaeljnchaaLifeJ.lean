/- Life: LifePatience's walk. -/
import Derived.Test.YtaibifaeljnchaaLifeI
namespace Go.Proofs.Ytaibifaeljnchaa
set_option linter.unusedVariables false
open Go.RowKit
open Go.Maps (Keyed)

theorem SL61 : SliceT Try.prog 61 22 1 := .of (by kernel_rfl)
def seenC (x : BeatD) : List Value := [.slice x.A1 x.n1 x.c1]
theorem seenC_len (x : BeatD) : (seenC x).length = 1 := rfl
theorem LifeFrom.extS {B : Nat} {S : Nat → Prop} {w w' : World} {bl : Nat} {L : List (Key × Int)} (h : LifeFrom B w bl L) (he : Ext S w w') (h1 : ∀ g t cs, Blk w g t cs → t ≠ 22 → ¬ S g) (h2 : ∀ m L, Clocks w m L → ¬ S m) : LifeFrom B w' bl L := by
  obtain ⟨a1, a0, m, a4, a2, a3⟩ := h
  exact ⟨a1, a0, m, a4, a2.ext he (h1 _ _ _ a2 (by decide)), a3.ext he (h2 _ _ a3)⟩
/-- the clocks and what was seen -/
structure Pat (w wr : World) (bl : Nat) (v : Value) (L : List (Key × Int)) (R : List BeatD) : Prop where
  a : LifeFrom w.heap.size wr bl L
  o : wr.ownsRow w.heap.size 22 1 v R.length (R.reverse.flatMap seenC)
  ok : ∀ x ∈ R, x.ok w
  s : SeenBy L R
  ext : Ext Nothing w wr
theorem Pat.ext0 {w wr w' : World} {bl : Nat} {v : Value} {L : List (Key × Int)} {R : List BeatD} (h : Pat w wr bl v L R) (he : Ext Nothing wr w') : Pat w w' bl v L R :=
  ⟨h.a.ext0 he, own_ext h.o he (fun _ _ e => e), h.ok, h.s, h.ext.trans he (fun _ _ e => e)⟩
theorem Pat.nil {w wr : World} {bl : Nat} (h : LifeFrom w.heap.size wr bl []) (he : Ext Nothing w wr) : Pat w wr bl (.slice none 0 0) [] [] :=
  ⟨h, World.ownsRow_nil _ _ _ _, fun x hx => by simp at hx, SeenBy.nil _, he⟩
theorem Pat.lead {w wr w2 : World} {bl : Nat} {v : Value} {L : List (Key × Int)} {R : List BeatD} (h : Pat w wr bl v L R) (ha : LifeFrom w.heap.size w2 bl []) (hm : OnlyMap w.heap.size wr w2) : Pat w w2 bl (.slice none 0 0) [] [] := by
  obtain ⟨m, es, c, hm1, hm2, hm3⟩ := hm
  exact Pat.nil ha (h.ext.trans hm3 (fun b hb e => by omega))
theorem Pat.le {w wr : World} {bl : Nat} {v : Value} {L : List (Key × Int)} {R : List BeatD} (h : Pat w wr bl v L R) : w.heap.size ≤ wr.heap.size := h.ext.size
/-- a Tick -/
theorem Pat.tick {w wr w5 : World} {bl : Nat} {v : Value} {L L' : List (Key × Int)} {R : List BeatD} {x : BeatD} {q : List Ask} (h : Pat w wr bl v L R) (hT : tickF L x.ns x.ds = (L', q)) (hx : x.ok w) (ha : LifeFrom w.heap.size w5 bl L') (he : Ext (fun b => b = bl) wr w5) :
    LifeFrom w.heap.size w5 bl L' ∧ w5.ownsRow w.heap.size 22 1 v R.length (R.reverse.flatMap seenC) ∧ (∀ y ∈ x :: R, y.ok w) ∧ SeenBy L' (x :: R) ∧ Ext Nothing w w5 ∧ AskedBy q R := by
  obtain ⟨h1, h2⟩ := tick_seen h.s hT
  obtain ⟨m, hm⟩ := h.a.life.blk
  refine ⟨ha, own_ext h.o he (fun g hg e => own_ne h.o hm (by decide) (by rw [hg]; exact congrArg some e)), ?_, h1, h.ext.trans he (fun b hb e => ?_), h2⟩
  · intro y hy
    rcases List.mem_cons.1 hy with rfl | hy
    · exact hx
    · exact h.ok y hy
  · have := h.a.2.1; omega
theorem Pat.seen {w w6 w7 : World} {bl : Nat} {A : Option Addr} {c : Nat} {v : Value} {L : List (Key × Int)} {R : List BeatD} {x : BeatD}
    (ha : LifeFrom w.heap.size w6 bl L) (ho : w6.ownsRow w.heap.size 22 1 v R.length (R.reverse.flatMap seenC)) (hok : ∀ y ∈ x :: R, y.ok w) (hs : SeenBy L (x :: R)) (he : Ext Nothing w w6)
    (ho' : w7.ownsRow w.heap.size 22 1 (.slice A (R.length + 1) c) (R.length + 1) (R.reverse.flatMap seenC ++ #[Value.slice x.A1 x.n1 x.c1].toList)) (hg : w6.grownBy w7 v.ownBlock) : Pat w w7 bl (.slice A (R.length + 1) c) L (x :: R) := by
  have hx : Ext (fun b => v.ownBlock = some b) w6 w7 := Ext.of_grown hg (fun g e => e)
  refine ⟨ha.extS hx (fun g t cs hb ht => own_ne ho hb (Ne.symm ht)) (fun m L hc => own_ne_map ho hc), ?_, hok, hs, he.trans hx (fun b hb e => by have := own_ge ho e; omega)⟩
  simpa [seenC] using ho'
theorem Pat.row {w wr : World} {R : List BeatD} {A : Option Addr} {c : Nat} (h : wr.ownsRow w.heap.size 22 1 (.slice A R.length c) R.length (R.reverse.flatMap seenC)) {j : Nat} {x : BeatD} (hj : R.reverse[j]? = some x) : ∃ b off, A = some ⟨b, off, none⟩ ∧ wr.cell? ⟨b, off + j, none⟩ = some (.slice x.A1 x.n1 x.c1) := by
  have h1 := Sl.of_own (f := seenC) seenC_len h (by simp)
  obtain ⟨hk, rfl⟩ := List.getElem?_eq_some_iff.1 hj
  have hk' : j < R.length := by simpa using hk
  obtain ⟨_, b, off, rfl, hce⟩ := h1.get (Ext.refl Nothing wr) hk'
  exact ⟨b, off, rfl, by simpa using hce 0 _ rfl⟩
theorem ask_at {q : List Ask} {R : List BeatD} (h : AskedBy q R) {t : Nat} (ht : t < q.length) (h7 : q[t].op = 7) : 20 ≤ R.length ∧ ∀ j : Nat, R.length - 20 ≤ j → j < R.length → ∃ x, R.reverse[j]? = some x ∧ x ∈ R ∧ upIn x.ns q[t].nid q[t].nep q[t].nsq := by
  have h1 := h _ (List.getElem_mem ht) h7
  have h2 : 20 ≤ R.length := by
    obtain ⟨x, hx, _⟩ := h1 19 (by omega)
    have := (List.getElem?_eq_some_iff.1 hx).1
    omega
  refine ⟨h2, fun j hj1 hj2 => ?_⟩
  obtain ⟨x, hx, hu⟩ := h1 (R.length - 1 - j) (by omega)
  exact ⟨x, by rw [List.getElem?_reverse hj2]; exact hx, List.mem_of_getElem? hx, hu⟩

set_option maxRecDepth 100000 in
set_option maxHeartbeats 4000000 in
theorem patience_any (w : World) (A : Option Addr) (n cap : Nat) (l : List BeatD) (hl : Sl w 4 A n (l.map BeatD.cells)) (hlok : ∀ x ∈ l, x.ok w) (hn : n ≤ 1048576) :
    Calls Try.prog 5 #[.slice A n cap] w fun e w' => e = .returned (.bool true) ∧ Ext Nothing w w' := by
  go_enter Try.func5, Try.ntmps5
  go_wp2_with (go_at_call 6; refine (new_from _).mono ?_; rintro e w1 ⟨rfl, hL, hx1⟩)
  have hst : Pat w w1 (w.heap.size + 1) (.slice none 0 0) [] [] := Pat.nil hL hx1
  go_loopw [4, 5] (fun v i wr => ∃ (k : Nat) (L : List (Key × Int)) (R : List BeatD), k ≤ n ∧ i = .int .i64 k ∧ Pat w wr (w.heap.size + 1) v L R ∧ R.length ≤ k * 45) (fun _ i _ => n - (intOf i).toNat)
  case atStart => exact ⟨0, [], [], Nat.zero_le _, rfl, hst, by simp⟩
  case round =>
    clear hst hL hx1
    obtain ⟨k, L, R, hk, rfl, hP, hR⟩ := hrel
    obtain ⟨wo, rfl⟩ : ∃ wo : World, wo = wr := ⟨_, rfl⟩
    by_cases hlt : k < n
    · obtain ⟨hkn, b, off, rfl, hce⟩ := hl.get (Ext.refl Nothing w) hlt
      have hxok := hlok _ (List.getElem_mem hkn)
      generalize l[k] = x at hce hxok
      obtain ⟨A4, c4, rfl⟩ := own_slice hP.o
      have z0 : wo.cell? ⟨b, off + k * 4, none⟩ = some (.bool x.lead) := hP.ext.cell (hce 0 _ rfl) (fun e => e)
      cases hlead : x.lead with
      | true =>
        rw [hlead] at z0
        have HLD := Lib.hid hlead
        clear hlead
        go_wp2_with (go_at_call 10; refine (lead_any _ _ _ _ hP.a).mono ?_; rintro e w3 ⟨rfl, ha2, hm⟩)
        have hP3 := hP.lead ha2 hm
        have hR3 : ([] : List BeatD).length ≤ k * 45 := by simp
        clear hP hR ha2 hm z0
        have z2 : w3.cell? ⟨b, off + k * 4 + 2, none⟩ = some (.slice x.A1 x.n1 x.c1) := hP3.ext.cell (hce 2 _ rfl) (fun e => e)
        have z3 : w3.cell? ⟨b, off + k * 4 + 3, none⟩ = some (.slice x.A2 x.n2 x.c2) := hP3.ext.cell (hce 3 _ rfl) (fun e => e)
        have zz2 : (w3.alloc (.cells #[.int .i64 0, .int .i64 0, .slice none 0 0, .slice none 0 0, .slice none 0 0, .slice none 0 0, .slice none 0 0, .slice none 0 0, .slice none 0 0] 35)).cell? ⟨b, off + k * 4 + 2, none⟩ = some (.slice x.A1 x.n1 x.c1) := Ext.cell ((Ext.refl Nothing _).alloc _) z2 (fun e => e)
        have zz3 : (w3.alloc (.cells #[.int .i64 0, .int .i64 0, .slice none 0 0, .slice none 0 0, .slice none 0 0, .slice none 0 0, .slice none 0 0, .slice none 0 0, .slice none 0 0] 35)).cell? ⟨b, off + k * 4 + 3, none⟩ = some (.slice x.A2 x.n2 x.c2) := Ext.cell ((Ext.refl Nothing _).alloc _) z3 (fun e => e)
        go_region
        have hP4 : Pat w ((w3.alloc (.cells #[.int .i64 0, .int .i64 0, .slice none 0 0, .slice none 0 0, .slice x.A1 x.n1 x.c1, .slice none 0 0, .slice none 0 0, .slice x.A2 x.n2 x.c2, .slice none 0 0] 35)).drew) (w.heap.size + 1) (.slice none 0 0) _ _ := hP3.ext0 (((Ext.refl _ _).alloc _).drew)
        have hs4 : Blk ((w3.alloc (.cells #[.int .i64 0, .int .i64 0, .slice none 0 0, .slice none 0 0, .slice x.A1 x.n1 x.c1, .slice none 0 0, .slice none 0 0, .slice x.A2 x.n2 x.c2, .slice none 0 0] 35)).drew) w3.heap.size 35 #[.int .i64 0, .int .i64 0, .slice none 0 0, .slice none 0 0, .slice x.A1 x.n1 x.c1, .slice none 0 0, .slice none 0 0, .slice x.A2 x.n2 x.c2, .slice none 0 0] := Blk.new' _ _ _ rfl
        have hw3 : w.heap.size ≤ w3.heap.size := hP3.ext.size
        have hbl3 : w.heap.size + 1 < w3.heap.size := hP3.a.life.lt
        go_wp2
        go_loopw [4, 7] (fun v i wr => ∃ (t : Nat) (L : List (Key × Int)) (R : List BeatD), t ≤ 45 ∧ i = .int .i64 t ∧ Pat w wr (w.heap.size + 1) v L R ∧ R.length ≤ k * 45 + t ∧ Blk wr w3.heap.size 35 #[.int .i64 0, .int .i64 0, .slice none 0 0, .slice none 0 0, .slice x.A1 x.n1 x.c1, .slice none 0 0, .slice none 0 0, .slice x.A2 x.n2 x.c2, .slice none 0 0]) (fun _ i _ => 60 - (intOf i).toNat)
        case atStart => exact ⟨0, _, _, by omega, rfl, hP4, hR3, hs4⟩
        case round =>
          clear hP4 hs4 hP3 z2 z3 zz2 zz3 hR3
          obtain ⟨t, L2, R2, ht, rfl, hP, hR, hs⟩ := hrel
          obtain ⟨A5, c5, rfl⟩ := own_slice hP.o
          have z1 : wr.cell? ⟨b, off + k * 4 + 1, none⟩ = some (.int .i64 x.times) := hP.ext.cell (hce 1 _ rfl) (fun e => e)
          obtain ⟨wq, rfl⟩ : ∃ wq : World, wq = wr := ⟨_, rfl⟩
          obtain ⟨L', q, hT⟩ : ∃ L' q, tickF L2 x.ns x.ds = (L', q) := ⟨_, _, rfl⟩
          have hqn : q.length ≤ 1048576 * 4 := by
            have h1 := tickF_len L2 x.ns x.ds
            rw [hT] at h1
            have h2 := hxok.n.len
            have h3 := hxok.d.len
            have h4 := hxok.ln
            have h5 := hxok.ld
            simp only at h1
            omega
          have HT := Lib.hid hT
          clear hT
          have gb : ¬ w3.heap.size = w.heap.size + 1 := by omega
          go_wp2_with (first | (go_at_call 7; refine (pick_any x.times 45 _ (by decide) (by decide) hxok.t).mono ?_; rintro e w' ⟨⟨p, rfl, hp⟩, rfl⟩) | (refine wpList_load_blk rfl 35 _ rfl ST35 w3.heap.size rfl #[.int .i64 0, .int .i64 0, .slice none 0 0, .slice none 0 0, .slice x.A1 x.n1 x.c1, .slice none 0 0, .slice none 0 0, .slice x.A2 x.n2 x.c2, .slice none 0 0] (by exact hs) rfl ?_) | (go_at_call 8; refine (tick_from w.heap.size _ (w.heap.size + 1) L2 hP.a x.A1 x.A2 x.n1 x.n2 x.c1 x.c2 x.ns x.ds (hxok.n.ext0 hP.ext) (hxok.d.ext0 hP.ext) hxok.nok hxok.dok hxok.ln hxok.ld _ _ _ _ _ _ _ L' q HT.out hP.le).mono ?_; rintro e w5 ⟨A6, c6, rfl, hx5, ha5, hs5⟩))
          · obtain ⟨hL5, ho5, hok5, hse5, he5, hq5⟩ := hP.tick HT.out hxok ha5 hx5
            have hb5 := hs.ext hx5 gb
            have hB5 : w.heap.size ≤ w5.heap.size := he5.size
            clear ha5 hP HT z1 hs hx5
            go_loopw [9] (fun i wr => ∃ s : Nat, s ≤ q.length ∧ i = .int .i64 s ∧ Ext Nothing w5 wr) (fun i _ => q.length - (intOf i).toNat)
            case atStart => exact ⟨0, Nat.zero_le _, rfl, Ext.refl _ _⟩
            case round =>
              obtain ⟨s, hsl, rfl, hx6⟩ := hrel
              obtain ⟨w6, rfl⟩ : ∃ w6 : World, w6 = wr := ⟨_, rfl⟩
              by_cases hsq : s < q.length
              · obtain ⟨hsq', b7, off7, rfl, hc7⟩ := hs5.get hx6 hsq
                by_cases h7 : q[s].op = 7
                · obtain ⟨h20, hat⟩ := ask_at hq5 hsq' h7
                  generalize q[s] = a at hc7 h7 hat
                  obtain ⟨aop, ajid, ajver, anid, anep, ansq⟩ := a
                  simp only at h7
                  subst h7
                  have y0 : w6.cell? ⟨b7, off7 + s * 27, none⟩ = some (.int .i64 7) := hc7 0 _ rfl
                  have HAT := Lib.hid hat
                  clear hat
                  go_wp2
                  go_loopw [10] (fun i wr => ∃ j : Nat, R2.length - 20 ≤ j ∧ j ≤ R2.length ∧ i = .int .i64 j ∧ Ext Nothing w6 wr) (fun i _ => R2.length - (intOf i).toNat)
                  case atStart => exact ⟨R2.length - 20, Nat.le_refl _, Nat.sub_le _ _, by go_num, Ext.refl _ _⟩
                  case round =>
                    obtain ⟨j, hj1, hj2, rfl, hx7⟩ := hrel
                    by_cases hjl : j < R2.length
                    · obtain ⟨y, hy, hyR, hyu⟩ := HAT.out j hj1 hjl
                      have hx57 := hx6.trans hx7 (fun _ _ e => e)
                      obtain ⟨b8, off8, rfl, c8⟩ := Pat.row (w := w) (own_ext ho5 hx57 (fun _ _ e => e)) hy
                      have hyok := hok5 y (List.mem_cons_of_mem _ hyR)
                      have d0 : wr.cell? ⟨b7, off7 + s * 27 + 10, none⟩ = some (.int .i64 anid) := hx7.cell (hc7 10 _ rfl) (fun e => e)
                      have d1 : wr.cell? ⟨b7, off7 + s * 27 + 10 + 1, none⟩ = some (.int .i64 0) := hx7.cell (hc7 11 _ rfl) (fun e => e)
                      have d2 : wr.cell? ⟨b7, off7 + s * 27 + 10 + 2, none⟩ = some (.int .i64 0) := hx7.cell (hc7 12 _ rfl) (fun e => e)
                      have d3 : wr.cell? ⟨b7, off7 + s * 27 + 10 + 3, none⟩ = some (.bool false) := hx7.cell (hc7 13 _ rfl) (fun e => e)
                      have d4 : wr.cell? ⟨b7, off7 + s * 27 + 10 + 4, none⟩ = some (.bool false) := hx7.cell (hc7 14 _ rfl) (fun e => e)
                      have d5 : wr.cell? ⟨b7, off7 + s * 27 + 10 + 5, none⟩ = some (.int .i64 0) := hx7.cell (hc7 15 _ rfl) (fun e => e)
                      have d6 : wr.cell? ⟨b7, off7 + s * 27 + 10 + 6, none⟩ = some (.int .i64 anep) := hx7.cell (hc7 16 _ rfl) (fun e => e)
                      have d7 : wr.cell? ⟨b7, off7 + s * 27 + 10 + 7, none⟩ = some (.int .i64 ansq) := hx7.cell (hc7 17 _ rfl) (fun e => e)
                      have HY := Lib.hid hy
                      clear hy
                      go_wp2
                      go_still_tail 9, (by kernel_rfl)
                      change wpList _ _ _ _ _ wr.drew
                      have hxd : Ext Nothing wr wr.drew := (Ext.refl _ _).drew
                      generalize wr.drew = w8 at hxd ⊢
                      go_wp2_with (go_at_call 14; refine (among_any y.A1 y.n1 y.c1 y.ns anid anep ansq 0 0 0 false false w8 (hyok.n.ext0 ((he5.trans hx57 (fun _ _ e => e)).trans hxd (fun _ _ e => e))) hyok.ln hyu).mono ?_; rintro e w9 ⟨rfl, hx9⟩)
                      go_roundw
                      case rel => exact ⟨j + 1, by omega, by omega, by go_num, (hx7.trans hxd (fun _ _ e => e)).trans hx9 (fun _ _ e => e)⟩
                      case measure => simp [intOf]; omega
                    · go_wp2
                      go_roundw
                      case rel => exact ⟨s + 1, by omega, by go_num, hx6.trans hx7 (fun _ _ e => e)⟩
                      case measure => simp [intOf]; omega
                · generalize q[s] = a at hc7 h7
                  obtain ⟨aop, ajid, ajver, anid, anep, ansq⟩ := a
                  have y0 : w6.cell? ⟨b7, off7 + s * 27, none⟩ = some (.int .i64 aop) := hc7 0 _ rfl
                  have h7' : (aop == 7) = false := by simpa using h7
                  clear hc7
                  go_wp2
                  go_roundw
                  case rel => exact ⟨s + 1, by omega, by go_num, hx6⟩
                  case measure => simp [intOf]; omega
              · have z2 : w6.cell? ⟨b, off + k * 4 + 2, none⟩ = some (.slice x.A1 x.n1 x.c1) := (he5.trans hx6 (fun _ _ e => e)).cell (hce 2 _ rfl) (fun e => e)
                have hB6 : w.heap.size ≤ w6.heap.size := Nat.le_trans hB5 hx6.size
                go_wp2_with (first | (refine wpList_slice1 rfl 61 _ rfl SL61 #[.slice x.A1 x.n1 x.c1] rfl rfl ?_) | (at_builtin; refine wpList_app1 rfl _ _ 61 rfl w.heap.size SL61 (.slice A5 R2.length c5) R2.length (R2.reverse.flatMap seenC) rfl ?hown _ _ #[.slice x.A1 x.n1 x.c1] rfl ?hb rfl rfl (by omega) ?hbase ?_))
                case hown => exact own_ext ho5 (hx6.alloc _) (fun _ _ e => e)
                case hb => exact Blk.new' _ _ _ rfl
                case hbase => simp; omega
                intro A7 c7 w7 r1 r2
                have hx66 := hx6.alloc (.cells #[.slice x.A1 x.n1 x.c1] 22)
                have hP7 := Pat.seen (hL5.ext0 hx66) (own_ext ho5 hx66 (fun _ _ e => e)) hok5 hse5 (he5.trans hx66 (fun _ _ e => e)) r1 r2
                have hb7 := (hb5.ext hx66 (fun e => e)).ext (Ext.of_grown (S := fun b => Value.ownBlock (.slice A5 R2.length c5) = some b) r2 (fun g e => e)) (own_ne (own_ext ho5 hx66 (fun _ _ e => e)) (hb5.ext hx66 (fun e => e)) (by decide))
                go_wp2
                go_roundw
                case rel => exact ⟨t + 1, L', x :: R2, by omega, by go_num, hP7, by simp; omega, hb7⟩
                case measure => simp [intOf]; omega
          · go_roundw
            case rel => exact ⟨k + 1, L2, R2, by omega, by go_num, hP, by omega⟩
            case measure => simp [intOf]; omega
      | false =>
        rw [hlead] at z0
        have HLD := Lib.hid hlead
        clear hlead
        go_wp2
        obtain ⟨w3, hw3⟩ : ∃ w3, w3 = wo := ⟨_, rfl⟩
        have hP3 := hP
        have hR3 := hR
        rw [← hw3] at hP3 ⊢
        clear hP hR z0 hw3
        have z2 : w3.cell? ⟨b, off + k * 4 + 2, none⟩ = some (.slice x.A1 x.n1 x.c1) := hP3.ext.cell (hce 2 _ rfl) (fun e => e)
        have z3 : w3.cell? ⟨b, off + k * 4 + 3, none⟩ = some (.slice x.A2 x.n2 x.c2) := hP3.ext.cell (hce 3 _ rfl) (fun e => e)
        have zz2 : (w3.alloc (.cells #[.int .i64 0, .int .i64 0, .slice none 0 0, .slice none 0 0, .slice none 0 0, .slice none 0 0, .slice none 0 0, .slice none 0 0, .slice none 0 0] 35)).cell? ⟨b, off + k * 4 + 2, none⟩ = some (.slice x.A1 x.n1 x.c1) := Ext.cell ((Ext.refl Nothing _).alloc _) z2 (fun e => e)
        have zz3 : (w3.alloc (.cells #[.int .i64 0, .int .i64 0, .slice none 0 0, .slice none 0 0, .slice none 0 0, .slice none 0 0, .slice none 0 0, .slice none 0 0, .slice none 0 0] 35)).cell? ⟨b, off + k * 4 + 3, none⟩ = some (.slice x.A2 x.n2 x.c2) := Ext.cell ((Ext.refl Nothing _).alloc _) z3 (fun e => e)
        go_region
        have hP4 : Pat w ((w3.alloc (.cells #[.int .i64 0, .int .i64 0, .slice none 0 0, .slice none 0 0, .slice x.A1 x.n1 x.c1, .slice none 0 0, .slice none 0 0, .slice x.A2 x.n2 x.c2, .slice none 0 0] 35)).drew) (w.heap.size + 1) (.slice A4 R.length c4) _ _ := hP3.ext0 (((Ext.refl _ _).alloc _).drew)
        have hs4 : Blk ((w3.alloc (.cells #[.int .i64 0, .int .i64 0, .slice none 0 0, .slice none 0 0, .slice x.A1 x.n1 x.c1, .slice none 0 0, .slice none 0 0, .slice x.A2 x.n2 x.c2, .slice none 0 0] 35)).drew) w3.heap.size 35 #[.int .i64 0, .int .i64 0, .slice none 0 0, .slice none 0 0, .slice x.A1 x.n1 x.c1, .slice none 0 0, .slice none 0 0, .slice x.A2 x.n2 x.c2, .slice none 0 0] := Blk.new' _ _ _ rfl
        have hw3 : w.heap.size ≤ w3.heap.size := hP3.ext.size
        have hbl3 : w.heap.size + 1 < w3.heap.size := hP3.a.life.lt
        go_wp2
        go_loopw [4, 7] (fun v i wr => ∃ (t : Nat) (L : List (Key × Int)) (R : List BeatD), t ≤ 45 ∧ i = .int .i64 t ∧ Pat w wr (w.heap.size + 1) v L R ∧ R.length ≤ k * 45 + t ∧ Blk wr w3.heap.size 35 #[.int .i64 0, .int .i64 0, .slice none 0 0, .slice none 0 0, .slice x.A1 x.n1 x.c1, .slice none 0 0, .slice none 0 0, .slice x.A2 x.n2 x.c2, .slice none 0 0]) (fun _ i _ => 60 - (intOf i).toNat)
        case atStart => exact ⟨0, _, _, by omega, rfl, hP4, hR3, hs4⟩
        case round =>
          clear hP4 hs4 hP3 z2 z3 zz2 zz3 hR3
          obtain ⟨t, L2, R2, ht, rfl, hP, hR, hs⟩ := hrel
          obtain ⟨A5, c5, rfl⟩ := own_slice hP.o
          have z1 : wr.cell? ⟨b, off + k * 4 + 1, none⟩ = some (.int .i64 x.times) := hP.ext.cell (hce 1 _ rfl) (fun e => e)
          obtain ⟨wq, rfl⟩ : ∃ wq : World, wq = wr := ⟨_, rfl⟩
          obtain ⟨L', q, hT⟩ : ∃ L' q, tickF L2 x.ns x.ds = (L', q) := ⟨_, _, rfl⟩
          have hqn : q.length ≤ 1048576 * 4 := by
            have h1 := tickF_len L2 x.ns x.ds
            rw [hT] at h1
            have h2 := hxok.n.len
            have h3 := hxok.d.len
            have h4 := hxok.ln
            have h5 := hxok.ld
            simp only at h1
            omega
          have HT := Lib.hid hT
          clear hT
          have gb : ¬ w3.heap.size = w.heap.size + 1 := by omega
          go_wp2_with (first | (go_at_call 7; refine (pick_any x.times 45 _ (by decide) (by decide) hxok.t).mono ?_; rintro e w' ⟨⟨p, rfl, hp⟩, rfl⟩) | (refine wpList_load_blk rfl 35 _ rfl ST35 w3.heap.size rfl #[.int .i64 0, .int .i64 0, .slice none 0 0, .slice none 0 0, .slice x.A1 x.n1 x.c1, .slice none 0 0, .slice none 0 0, .slice x.A2 x.n2 x.c2, .slice none 0 0] (by exact hs) rfl ?_) | (go_at_call 8; refine (tick_from w.heap.size _ (w.heap.size + 1) L2 hP.a x.A1 x.A2 x.n1 x.n2 x.c1 x.c2 x.ns x.ds (hxok.n.ext0 hP.ext) (hxok.d.ext0 hP.ext) hxok.nok hxok.dok hxok.ln hxok.ld _ _ _ _ _ _ _ L' q HT.out hP.le).mono ?_; rintro e w5 ⟨A6, c6, rfl, hx5, ha5, hs5⟩))
          · obtain ⟨hL5, ho5, hok5, hse5, he5, hq5⟩ := hP.tick HT.out hxok ha5 hx5
            have hb5 := hs.ext hx5 gb
            have hB5 : w.heap.size ≤ w5.heap.size := he5.size
            clear ha5 hP HT z1 hs hx5
            go_loopw [9] (fun i wr => ∃ s : Nat, s ≤ q.length ∧ i = .int .i64 s ∧ Ext Nothing w5 wr) (fun i _ => q.length - (intOf i).toNat)
            case atStart => exact ⟨0, Nat.zero_le _, rfl, Ext.refl _ _⟩
            case round =>
              obtain ⟨s, hsl, rfl, hx6⟩ := hrel
              obtain ⟨w6, rfl⟩ : ∃ w6 : World, w6 = wr := ⟨_, rfl⟩
              by_cases hsq : s < q.length
              · obtain ⟨hsq', b7, off7, rfl, hc7⟩ := hs5.get hx6 hsq
                by_cases h7 : q[s].op = 7
                · obtain ⟨h20, hat⟩ := ask_at hq5 hsq' h7
                  generalize q[s] = a at hc7 h7 hat
                  obtain ⟨aop, ajid, ajver, anid, anep, ansq⟩ := a
                  simp only at h7
                  subst h7
                  have y0 : w6.cell? ⟨b7, off7 + s * 27, none⟩ = some (.int .i64 7) := hc7 0 _ rfl
                  have HAT := Lib.hid hat
                  clear hat
                  go_wp2
                  go_loopw [10] (fun i wr => ∃ j : Nat, R2.length - 20 ≤ j ∧ j ≤ R2.length ∧ i = .int .i64 j ∧ Ext Nothing w6 wr) (fun i _ => R2.length - (intOf i).toNat)
                  case atStart => exact ⟨R2.length - 20, Nat.le_refl _, Nat.sub_le _ _, by go_num, Ext.refl _ _⟩
                  case round =>
                    obtain ⟨j, hj1, hj2, rfl, hx7⟩ := hrel
                    by_cases hjl : j < R2.length
                    · obtain ⟨y, hy, hyR, hyu⟩ := HAT.out j hj1 hjl
                      have hx57 := hx6.trans hx7 (fun _ _ e => e)
                      obtain ⟨b8, off8, rfl, c8⟩ := Pat.row (w := w) (own_ext ho5 hx57 (fun _ _ e => e)) hy
                      have hyok := hok5 y (List.mem_cons_of_mem _ hyR)
                      have d0 : wr.cell? ⟨b7, off7 + s * 27 + 10, none⟩ = some (.int .i64 anid) := hx7.cell (hc7 10 _ rfl) (fun e => e)
                      have d1 : wr.cell? ⟨b7, off7 + s * 27 + 10 + 1, none⟩ = some (.int .i64 0) := hx7.cell (hc7 11 _ rfl) (fun e => e)
                      have d2 : wr.cell? ⟨b7, off7 + s * 27 + 10 + 2, none⟩ = some (.int .i64 0) := hx7.cell (hc7 12 _ rfl) (fun e => e)
                      have d3 : wr.cell? ⟨b7, off7 + s * 27 + 10 + 3, none⟩ = some (.bool false) := hx7.cell (hc7 13 _ rfl) (fun e => e)
                      have d4 : wr.cell? ⟨b7, off7 + s * 27 + 10 + 4, none⟩ = some (.bool false) := hx7.cell (hc7 14 _ rfl) (fun e => e)
                      have d5 : wr.cell? ⟨b7, off7 + s * 27 + 10 + 5, none⟩ = some (.int .i64 0) := hx7.cell (hc7 15 _ rfl) (fun e => e)
                      have d6 : wr.cell? ⟨b7, off7 + s * 27 + 10 + 6, none⟩ = some (.int .i64 anep) := hx7.cell (hc7 16 _ rfl) (fun e => e)
                      have d7 : wr.cell? ⟨b7, off7 + s * 27 + 10 + 7, none⟩ = some (.int .i64 ansq) := hx7.cell (hc7 17 _ rfl) (fun e => e)
                      have HY := Lib.hid hy
                      clear hy
                      go_wp2
                      go_still_tail 9, (by kernel_rfl)
                      change wpList _ _ _ _ _ wr.drew
                      have hxd : Ext Nothing wr wr.drew := (Ext.refl _ _).drew
                      generalize wr.drew = w8 at hxd ⊢
                      go_wp2_with (go_at_call 14; refine (among_any y.A1 y.n1 y.c1 y.ns anid anep ansq 0 0 0 false false w8 (hyok.n.ext0 ((he5.trans hx57 (fun _ _ e => e)).trans hxd (fun _ _ e => e))) hyok.ln hyu).mono ?_; rintro e w9 ⟨rfl, hx9⟩)
                      go_roundw
                      case rel => exact ⟨j + 1, by omega, by omega, by go_num, (hx7.trans hxd (fun _ _ e => e)).trans hx9 (fun _ _ e => e)⟩
                      case measure => simp [intOf]; omega
                    · go_wp2
                      go_roundw
                      case rel => exact ⟨s + 1, by omega, by go_num, hx6.trans hx7 (fun _ _ e => e)⟩
                      case measure => simp [intOf]; omega
                · generalize q[s] = a at hc7 h7
                  obtain ⟨aop, ajid, ajver, anid, anep, ansq⟩ := a
                  have y0 : w6.cell? ⟨b7, off7 + s * 27, none⟩ = some (.int .i64 aop) := hc7 0 _ rfl
                  have h7' : (aop == 7) = false := by simpa using h7
                  clear hc7
                  go_wp2
                  go_roundw
                  case rel => exact ⟨s + 1, by omega, by go_num, hx6⟩
                  case measure => simp [intOf]; omega
              · have z2 : w6.cell? ⟨b, off + k * 4 + 2, none⟩ = some (.slice x.A1 x.n1 x.c1) := (he5.trans hx6 (fun _ _ e => e)).cell (hce 2 _ rfl) (fun e => e)
                have hB6 : w.heap.size ≤ w6.heap.size := Nat.le_trans hB5 hx6.size
                go_wp2_with (first | (refine wpList_slice1 rfl 61 _ rfl SL61 #[.slice x.A1 x.n1 x.c1] rfl rfl ?_) | (at_builtin; refine wpList_app1 rfl _ _ 61 rfl w.heap.size SL61 (.slice A5 R2.length c5) R2.length (R2.reverse.flatMap seenC) rfl ?hown _ _ #[.slice x.A1 x.n1 x.c1] rfl ?hb rfl rfl (by omega) ?hbase ?_))
                case hown => exact own_ext ho5 (hx6.alloc _) (fun _ _ e => e)
                case hb => exact Blk.new' _ _ _ rfl
                case hbase => simp; omega
                intro A7 c7 w7 r1 r2
                have hx66 := hx6.alloc (.cells #[.slice x.A1 x.n1 x.c1] 22)
                have hP7 := Pat.seen (hL5.ext0 hx66) (own_ext ho5 hx66 (fun _ _ e => e)) hok5 hse5 (he5.trans hx66 (fun _ _ e => e)) r1 r2
                have hb7 := (hb5.ext hx66 (fun e => e)).ext (Ext.of_grown (S := fun b => Value.ownBlock (.slice A5 R2.length c5) = some b) r2 (fun g e => e)) (own_ne (own_ext ho5 hx66 (fun _ _ e => e)) (hb5.ext hx66 (fun e => e)) (by decide))
                go_wp2
                go_roundw
                case rel => exact ⟨t + 1, L', x :: R2, by omega, by go_num, hP7, by simp; omega, hb7⟩
                case measure => simp [intOf]; omega
          · go_roundw
            case rel => exact ⟨k + 1, L2, R2, by omega, by go_num, hP, by omega⟩
            case measure => simp [intOf]; omega
    · go_wp2_with (go_at_call 9; refine (lives_any _).mono ?_; rintro e w' ⟨rfl, hx⟩)
      go_ret
      exact ⟨rfl, hP.ext.trans hx (fun _ _ e => e)⟩
end Go.Proofs.Ytaibifaeljnchaa
