/- Life: Lead twice; two lists of what is asked, held against each other; a node among others. -/
import Derived.Test.YtaibifaeljnchaaLifeF
namespace Go.Proofs.Ytaibifaeljnchaa
set_option linter.unusedVariables false
open Go.RowKit
open Go.Maps (Keyed)

theorem askCells_one (x : Ask) : x.cells.all Value.oneCell' = true := rfl
theorem ZT49 : ZeroT Try.prog 49 27 := .of (by kernel_rfl)
set_option maxHeartbeats 1000000 in
theorem cmds_any (w : World) (A1 A2 : Option Addr) (n c1 c2 : Nat) (q : List Ask) (h1 : Sl w 27 A1 n (q.map Ask.cells)) (h2 : Sl w 27 A2 n (q.map Ask.cells)) (hn : n ≤ 1048576 * 4) :
    Calls Try.prog 12 #[.slice A1 n c1, .slice A2 n c2] w fun e w' => e = .returned (.bool true) ∧ Ext Nothing w w' := by
  go_enter Try.func12, Try.ntmps12
  go_wp2
  go_loopw [5] (fun i wr => ∃ k : Nat, k ≤ n ∧ i = .int .i64 k ∧ Ext Nothing w wr) (fun i _ => n - (intOf i).toNat)
  case atStart => exact ⟨0, Nat.zero_le _, rfl, Ext.refl _ _⟩
  case round =>
    obtain ⟨k, hk, rfl, hx⟩ := hrel
    by_cases hlt : k < n
    · obtain ⟨hkn, b, off, rfl, hce⟩ := h1.get hx hlt
      obtain ⟨_, b', off', rfl, hce'⟩ := h2.get hx hlt
      generalize q[k] = x at hce hce'
      obtain ⟨op, jid, jver, nid, nep, nsq⟩ := x
      obtain ⟨cs, hcs⟩ : ∃ cs : Array Value, cs.toList = Ask.cells ⟨op, jid, jver, nid, nep, nsq⟩ := ⟨⟨_⟩, rfl⟩
      have hsz : cs.size = 27 := by rw [← Array.length_toList, hcs]; rfl
      have hone : cs.toList.all Value.oneCell' = true := by rw [hcs]; rfl
      have hca : ∀ (j : Nat) u, (Ask.cells ⟨op, jid, jver, nid, nep, nsq⟩)[j]? = some u → cs[j]? = some u := fun j u hu => by rw [← Array.getElem?_toList, hcs]; exact hu
      rw [← hcs] at hce hce'
      clear hcs
      have hx1 : Ext Nothing wr (wr.alloc (.cells cs 49)) := (Ext.refl _ _).alloc _
      have hce2 : ∀ j u, cs.toList[j]? = some u → (wr.alloc (.cells cs 49)).cell? ⟨b', off' + k * 27 + j, none⟩ = some u := fun j u hu => hx1.cell (hce' j u hu) (fun e => e)
      have hB1 : Blk ((wr.alloc (.cells cs 49)).alloc (.cells cs 49)) wr.heap.size 49 cs := (Blk.new' _ _ _ rfl).ext (S := Nothing) ((Ext.refl _ _).alloc _) (fun e => e)
      have hB2 : Blk ((wr.alloc (.cells cs 49)).alloc (.cells cs 49)) (wr.heap.size + 1) 49 cs := Blk.new' _ _ _ (by simp)
      have f0 : ((wr.alloc (.cells cs 49)).alloc (.cells cs 49)).cell? ⟨wr.heap.size, 0, none⟩ = some (.int .i64 op) := (hB1.cell 0).trans (hca 0 _ rfl)
      have f1 : ((wr.alloc (.cells cs 49)).alloc (.cells cs 49)).cell? ⟨wr.heap.size, 1, none⟩ = some (.int .i64 0) := (hB1.cell 1).trans (hca 1 _ rfl)
      have f3 : ((wr.alloc (.cells cs 49)).alloc (.cells cs 49)).cell? ⟨wr.heap.size, 3, none⟩ = some (.int .i64 jid) := (hB1.cell 3).trans (hca 3 _ rfl)
      have f8 : ((wr.alloc (.cells cs 49)).alloc (.cells cs 49)).cell? ⟨wr.heap.size, 8, none⟩ = some (.int .i64 jver) := (hB1.cell 8).trans (hca 8 _ rfl)
      have g0 : ((wr.alloc (.cells cs 49)).alloc (.cells cs 49)).cell? ⟨wr.heap.size + 1, 0, none⟩ = some (.int .i64 op) := (hB2.cell 0).trans (hca 0 _ rfl)
      have g1 : ((wr.alloc (.cells cs 49)).alloc (.cells cs 49)).cell? ⟨wr.heap.size + 1, 1, none⟩ = some (.int .i64 0) := (hB2.cell 1).trans (hca 1 _ rfl)
      have g3 : ((wr.alloc (.cells cs 49)).alloc (.cells cs 49)).cell? ⟨wr.heap.size + 1, 3, none⟩ = some (.int .i64 jid) := (hB2.cell 3).trans (hca 3 _ rfl)
      have g8 : ((wr.alloc (.cells cs 49)).alloc (.cells cs 49)).cell? ⟨wr.heap.size + 1, 8, none⟩ = some (.int .i64 jver) := (hB2.cell 8).trans (hca 8 _ rfl)
      have f10 : ((wr.alloc (.cells cs 49)).alloc (.cells cs 49)).cell? ⟨wr.heap.size, 10, none⟩ = some (.int .i64 nid) := (hB1.cell 10).trans (hca 10 _ rfl)
      have f11 : ((wr.alloc (.cells cs 49)).alloc (.cells cs 49)).cell? ⟨wr.heap.size, 11, none⟩ = some (.int .i64 0) := (hB1.cell 11).trans (hca 11 _ rfl)
      have f12 : ((wr.alloc (.cells cs 49)).alloc (.cells cs 49)).cell? ⟨wr.heap.size, 12, none⟩ = some (.int .i64 0) := (hB1.cell 12).trans (hca 12 _ rfl)
      have f13 : ((wr.alloc (.cells cs 49)).alloc (.cells cs 49)).cell? ⟨wr.heap.size, 13, none⟩ = some (.bool false) := (hB1.cell 13).trans (hca 13 _ rfl)
      have f14 : ((wr.alloc (.cells cs 49)).alloc (.cells cs 49)).cell? ⟨wr.heap.size, 14, none⟩ = some (.bool false) := (hB1.cell 14).trans (hca 14 _ rfl)
      have f15 : ((wr.alloc (.cells cs 49)).alloc (.cells cs 49)).cell? ⟨wr.heap.size, 15, none⟩ = some (.int .i64 0) := (hB1.cell 15).trans (hca 15 _ rfl)
      have f16 : ((wr.alloc (.cells cs 49)).alloc (.cells cs 49)).cell? ⟨wr.heap.size, 16, none⟩ = some (.int .i64 nep) := (hB1.cell 16).trans (hca 16 _ rfl)
      have f17 : ((wr.alloc (.cells cs 49)).alloc (.cells cs 49)).cell? ⟨wr.heap.size, 17, none⟩ = some (.int .i64 nsq) := (hB1.cell 17).trans (hca 17 _ rfl)
      have g10 : ((wr.alloc (.cells cs 49)).alloc (.cells cs 49)).cell? ⟨wr.heap.size + 1, 10, none⟩ = some (.int .i64 nid) := (hB2.cell 10).trans (hca 10 _ rfl)
      have g11 : ((wr.alloc (.cells cs 49)).alloc (.cells cs 49)).cell? ⟨wr.heap.size + 1, 11, none⟩ = some (.int .i64 0) := (hB2.cell 11).trans (hca 11 _ rfl)
      have g12 : ((wr.alloc (.cells cs 49)).alloc (.cells cs 49)).cell? ⟨wr.heap.size + 1, 12, none⟩ = some (.int .i64 0) := (hB2.cell 12).trans (hca 12 _ rfl)
      have g13 : ((wr.alloc (.cells cs 49)).alloc (.cells cs 49)).cell? ⟨wr.heap.size + 1, 13, none⟩ = some (.bool false) := (hB2.cell 13).trans (hca 13 _ rfl)
      have g14 : ((wr.alloc (.cells cs 49)).alloc (.cells cs 49)).cell? ⟨wr.heap.size + 1, 14, none⟩ = some (.bool false) := (hB2.cell 14).trans (hca 14 _ rfl)
      have g15 : ((wr.alloc (.cells cs 49)).alloc (.cells cs 49)).cell? ⟨wr.heap.size + 1, 15, none⟩ = some (.int .i64 0) := (hB2.cell 15).trans (hca 15 _ rfl)
      have g16 : ((wr.alloc (.cells cs 49)).alloc (.cells cs 49)).cell? ⟨wr.heap.size + 1, 16, none⟩ = some (.int .i64 nep) := (hB2.cell 16).trans (hca 16 _ rfl)
      have g17 : ((wr.alloc (.cells cs 49)).alloc (.cells cs 49)).cell? ⟨wr.heap.size + 1, 17, none⟩ = some (.int .i64 nsq) := (hB2.cell 17).trans (hca 17 _ rfl)
      clear hca hce'
      go_wp2_with (first | (refine wpList_load_at rfl 49 _ rfl ST49 b (off + k * 27) rfl cs (by exact hce) hsz ?_) | (refine wpList_load_at rfl 49 _ rfl ST49 b' (off' + k * 27) rfl cs (by exact hce2) hsz ?_) | (refine wpList_alloc_any rfl 49 rfl ZT49 ?_; intro z hz) | (refine wpList_store_new rfl 49 _ _ rfl ST49 z hz rfl rfl cs rfl hsz hone ?_; clear hz) | (at_builtin; fail))
      go_roundw
      case rel => exact ⟨k + 1, by omega, by go_num, (hx.alloc _).alloc _⟩
      case measure => simp [intOf]; omega
    · go_wp2
      go_ret
      exact ⟨rfl, hx⟩

def OnlyMap (B : Nat) (w w' : World) : Prop := ∃ m es c, B ≤ m ∧ w.heap[m]? = some (.map es c) ∧ Ext (fun b => b = m) w w'
/-- the clocks behind the pointer to bl are L; all of it lies from block B on -/
def LifeFrom (B : Nat) (w : World) (bl : Nat) (L : List (Key × Int)) : Prop := LOk L ∧ B ≤ bl ∧ ∃ m, B ≤ m ∧ Blk w bl 65 #[.map (some m)] ∧ Clocks w m L
theorem LifeFrom.life {B : Nat} {w : World} {bl : Nat} {L : List (Key × Int)} (h : LifeFrom B w bl L) : LifeIs w bl L := by
  obtain ⟨h1, _, m, _, h2, h3⟩ := h
  exact ⟨h1, m, h2, h3⟩
theorem LifeFrom.ext0 {B : Nat} {w w' : World} {bl : Nat} {L : List (Key × Int)} (h : LifeFrom B w bl L) (he : Ext Nothing w w') : LifeFrom B w' bl L := by
  obtain ⟨h1, h0, m, h4, h2, h3⟩ := h
  exact ⟨h1, h0, m, h4, h2.ext he (fun e => e), h3.ext he (fun e => e)⟩
theorem LifeFrom.ext1 {B : Nat} {w w' : World} {bl g t : Nat} {cs : Array Value} {L : List (Key × Int)} (h : LifeFrom B w bl L) (he : Ext (fun b => b = g) w w') (hg : Blk w g t cs) (ht : t ≠ 65) : LifeFrom B w' bl L := by
  obtain ⟨h1, h0, m, h4, h2, h3⟩ := h
  exact ⟨h1, h0, m, h4, h2.ext he (fun e => (h2.ne hg (Ne.symm ht)) e), h3.ext he (h3.ne_blk hg)⟩
theorem new_from (w : World) : Calls Try.prog 6 #[] w fun e w' => e = .returned (.pointer (some ⟨w.heap.size + 1, 0, none⟩)) ∧ LifeFrom w.heap.size w' (w.heap.size + 1) [] ∧ Ext Nothing w w' := by
  refine (new_any w).mono ?_
  rintro e w' ⟨rfl, h1, h2, h3⟩
  exact ⟨rfl, ⟨fun p hp => by simp at hp, by omega, _, Nat.le_refl _, h2, h1⟩, h3⟩
theorem tick_from (B : Nat) (w : World) (bl : Nat) (L : List (Key × Int)) (h : LifeFrom B w bl L)
    (A1 A2 : Option Addr) (n1 n2 c1 c2 : Nat) (ns : List NodeD) (ds : List DeployD) (hn : Sl w 8 A1 n1 (ns.map NodeD.cells)) (hd : Sl w 4 A2 n2 (ds.map DeployD.cells)) (hnok : ∀ x ∈ ns, x.ok) (hdok : ∀ x ∈ ds, x.ok)
    (hl1 : n1 ≤ 1048576) (hl2 : n2 ≤ 1048576) (s0 s1 s2 s3 s5 s6 s8 : Value) (L' : List (Key × Int)) (q : List Ask) (hs : tickF L ns ds = (L', q)) (hB : B ≤ w.heap.size) :
    Calls Try.prog 8 #[.pointer (some ⟨bl, 0, none⟩), .agg #[s0, s1, s2, s3, .slice A1 n1 c1, s5, s6, .slice A2 n2 c2, s8]] w fun e w' =>
      ∃ A c, e = .returned (.slice A q.length c) ∧ Ext (fun b => b = bl) w w' ∧ LifeFrom B w' bl L' ∧ Sl w' 27 A q.length (q.map Ask.cells) := by
  obtain ⟨h1, h0, m, h4, h2, h3⟩ := h
  refine (tick_any w bl m L h1 h2 h3 A1 A2 n1 n2 c1 c2 ns ds hn hd hnok hdok hl1 hl2 s0 s1 s2 s3 s5 s6 s8).mono ?_
  rw [hs]
  rintro e w' ⟨A, c, rfl, hx, ⟨m', h8, h4, h5⟩, h6, h7⟩
  exact ⟨A, c, rfl, hx, ⟨h7, h0, m', Nat.le_trans hB h8, h4, h5⟩, Sl.of_own askCells_len h6 rfl⟩
set_option maxHeartbeats 1000000 in
/-- all to nought -/
theorem lead_any (B : Nat) (w : World) (bl : Nat) (L : List (Key × Int)) (h : LifeFrom B w bl L) :
    Calls Try.prog 10 #[.pointer (some ⟨bl, 0, none⟩)] w fun e w' => e = .returned (.tuple #[]) ∧ LifeFrom B w' bl [] ∧ OnlyMap B w w' := by
  obtain ⟨h1, h0, m, h4, h2, h3⟩ := h
  have q1 : w.cell? ⟨bl, 0, none⟩ = some (.map (some m)) := h2.cell 0
  go_enter Try.func10, Try.ntmps10
  go_wp2_with (first | (refine wpList_clear _ rfl _ 63 3 rfl Try.underlying63 h3 rfl ?_; intro w1 r1 r2) | (at_builtin; fail))
  go_end0
  have hx : Ext (fun b => b = m) w w1 := Ext.of_grown r2 (fun g e => by injection e with e; exact e.symm)
  obtain ⟨es, c, h5, _⟩ := h3
  have h6 : bl ≠ m := by
    rintro rfl
    have h7 : w.heap[bl]? = some (.cells #[.map (some bl)] 65 (0, 0)) := h2
    rw [h5] at h7
    cases h7
  exact ⟨rfl, ⟨fun p hp => by simp at hp, h0, m, h4, h2.ext hx h6, r1⟩, m, es, c, h4, h5, hx⟩
theorem Blk.keep_map {w w' : World} {g t m : Nat} {cs : Array Value} {es : Array MapEntry} {c : Nat} (h : Blk w g t cs) (hm : w.heap[m]? = some (.map es c)) (he : Ext (fun b => b = m) w w') : Blk w' g t cs :=
  h.ext he (fun e => by subst e; have h' : w.heap[g]? = some (.cells cs t (0, 0)) := h; rw [hm] at h'; cases h')
theorem Sl.keep_map {w w' : World} {sz n m : Nat} {A : Option Addr} {xs : List (List Value)} {es : Array MapEntry} {c : Nat} (h : Sl w sz A n xs) (hm : w.heap[m]? = some (.map es c)) (he : Ext (fun b => b = m) w w') : Sl w' sz A n xs :=
  ⟨h.1, fun i cs hi => by
    obtain ⟨b, off, rfl, hl, hc⟩ := h.2 i cs hi
    refine ⟨b, off, rfl, hl, fun j u hu => he.cell (hc j u hu) (fun e => ?_)⟩
    have := hc j u hu
    simp only at e
    subst e
    simp [World.cell?, hm] at this⟩
theorem RefIs.keep_map {B : Nat} {w w' : World} {rl m : Nat} {L : List (Key × Int)} {es : Array MapEntry} {c : Nat} (h : RefIs B w rl L) (hm : w.heap[m]? = some (.map es c)) (he : Ext (fun b => b = m) w w') : RefIs B w' rl L := by
  obtain ⟨h0, h1, h2, A, c, h3, h4⟩ := h
  exact ⟨h0, h1, h2, A, c, h3.keep_map hm he, h4.keep_map hm he⟩
theorem RefIs.ext1 {B : Nat} {w w' : World} {rl bl : Nat} {L M : List (Key × Int)} (h : RefIs B w rl L) (hb : LifeFrom B w bl M) (he : Ext (fun b => b = bl) w w') : RefIs B w' rl L := by
  have hb' := hb.life
  obtain ⟨h0, h1, h2, A, c, h3, h4⟩ := h
  obtain ⟨m, hm⟩ := hb'.blk
  exact ⟨h0, h1, h2, A, c, h3.ext he (h3.ne hm (by decide)), Sl.keep1 h4 hb' (by decide) clkC_map he⟩
set_option maxHeartbeats 1000000 in
theorem rlead_any (B : Nat) (w : World) (rl : Nat) (L : List (Key × Int)) (h : RefIs B w rl L) :
    Calls Try.prog 11 #[.pointer (some ⟨rl, 0, none⟩)] w fun e w' => e = .returned (.tuple #[]) ∧ RefIs B w' rl [] ∧ Ext (fun b => b = rl) w w' := by
  obtain ⟨h0, h1, h2, A, c, h3, h4⟩ := h
  have q1 : w.cell? ⟨rl, 0, none⟩ = some (.slice A L.length c) := h3.cell 0
  have q2 : w.frozen? ⟨rl, 0, none⟩ = false := h3.frozen 0
  go_enter Try.func11, Try.ntmps11
  go_wp2
  go_end0
  exact ⟨rfl, ⟨fun p hp => by simp at hp, h1, by simp, none, 0, h3.set_ 0 _, Sl.nil _ _ _⟩, Ext.set1 _ _ _ _⟩
end Go.Proofs.Ytaibifaeljnchaa
