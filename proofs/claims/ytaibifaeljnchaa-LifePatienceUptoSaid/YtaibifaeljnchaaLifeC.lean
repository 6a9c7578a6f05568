/- Life: clocks as one word; the layer's example; one of n. -/
import Derived.Test.YtaibifaeljnchaaLifeB
namespace Go.Proofs.Ytaibifaeljnchaa
set_option linter.unusedVariables false
open Go.RowKit
open Go.Maps (Keyed)

/-- the clocks behind the pointer to bl are L -/
def LifeIs (w : World) (bl : Nat) (L : List (Key × Int)) : Prop := LOk L ∧ ∃ m, Blk w bl 65 #[.map (some m)] ∧ Clocks w m L
theorem LifeIs.ext0 {w w' : World} {bl : Nat} {L : List (Key × Int)} (h : LifeIs w bl L) (he : Ext Nothing w w') : LifeIs w' bl L := by
  obtain ⟨h1, m, h2, h3⟩ := h
  exact ⟨h1, m, h2.ext he (fun e => e), h3.ext he (fun e => e)⟩
theorem LifeIs.ext1 {w w' : World} {bl g t : Nat} {cs : Array Value} {L : List (Key × Int)} (h : LifeIs w bl L) (he : Ext (fun b => b = g) w w') (hg : Blk w g t cs) (ht : t ≠ 65) : LifeIs w' bl L := by
  obtain ⟨h1, m, h2, h3⟩ := h
  exact ⟨h1, m, h2.ext he (fun e => (h2.ne hg (Ne.symm ht)) e), h3.ext he (h3.ne_blk hg)⟩
theorem LifeIs.lt {w : World} {bl : Nat} {L : List (Key × Int)} (h : LifeIs w bl L) : bl < w.heap.size := by
  obtain ⟨h1, m, h2, h3⟩ := h
  exact h2.lt
theorem LifeIs.blk {w : World} {bl : Nat} {L : List (Key × Int)} (h : LifeIs w bl L) : ∃ m, Blk w bl 65 #[.map (some m)] := ⟨_, h.2.choose_spec.1⟩
/-- a slice without maps among its cells stays while the clocks' block turns -/
theorem Sl.keep1 {α : Type} {f : α → List Value} {w w' : World} {sz n : Nat} {A : Option Addr} {xs : List α} {bl : Nat} {L : List (Key × Int)} (h : Sl w sz A n (xs.map f)) (hb : LifeIs w bl L) (hsz : 0 < sz) (hf : ∀ x, ∀ u ∈ f x, ∀ m, u ≠ .map m)
    (he : Ext (fun b => b = bl) w w') : Sl w' sz A n (xs.map f) := by
  obtain ⟨m, hm⟩ := hb.blk
  refine h.ext he (h.ne hm hsz ?_)
  intro x hx u hu i
  obtain ⟨y, _, rfl⟩ := List.mem_map.1 hx
  rcases i with _ | i
  · simpa using fun e => hf y u hu _ e.symm
  · simp
theorem nodeCells_len (x : NodeD) : x.cells.length = 8 := rfl
theorem deployCells_len (x : DeployD) : x.cells.length = 4 := rfl
theorem askCells_len (x : Ask) : x.cells.length = 27 := rfl
theorem nodeCells_map (x : NodeD) : ∀ u ∈ x.cells, ∀ m, u ≠ .map m := by
  intro u hu m e; subst e; simp [NodeD.cells] at hu
theorem deployCells_map (x : DeployD) : ∀ u ∈ x.cells, ∀ m, u ≠ .map m := by
  intro u hu m e; subst e; simp [DeployD.cells] at hu

theorem new_life (w : World) : Calls Try.prog 6 #[] w fun e w' => e = .returned (.pointer (some ⟨w.heap.size + 1, 0, none⟩)) ∧ LifeIs w' (w.heap.size + 1) [] ∧ Ext Nothing w w' := by
  refine (new_any w).mono ?_
  rintro e w' ⟨rfl, h1, h2, h3⟩
  exact ⟨rfl, ⟨fun p hp => by simp at hp, _, h2, h1⟩, h3⟩

theorem tick_life (w : World) (bl : Nat) (L : List (Key × Int)) (h : LifeIs w bl L)
    (A1 A2 : Option Addr) (n1 n2 c1 c2 : Nat) (ns : List NodeD) (ds : List DeployD) (hn : Sl w 8 A1 n1 (ns.map NodeD.cells)) (hd : Sl w 4 A2 n2 (ds.map DeployD.cells)) (hnok : ∀ x ∈ ns, x.ok) (hdok : ∀ x ∈ ds, x.ok)
    (hl1 : n1 ≤ 1048576) (hl2 : n2 ≤ 1048576) (s0 s1 s2 s3 s5 s6 s8 : Value) (L' : List (Key × Int)) (q : List Ask) (hs : tickF L ns ds = (L', q)) :
    Calls Try.prog 8 #[.pointer (some ⟨bl, 0, none⟩), .agg #[s0, s1, s2, s3, .slice A1 n1 c1, s5, s6, .slice A2 n2 c2, s8]] w fun e w' =>
      ∃ A c, e = .returned (.slice A q.length c) ∧ Ext (fun b => b = bl) w w' ∧ LifeIs w' bl L' ∧ Sl w' 27 A q.length (q.map Ask.cells) := by
  obtain ⟨h1, m, h2, h3⟩ := h
  refine (tick_any w bl m L h1 h2 h3 A1 A2 n1 n2 c1 c2 ns ds hn hd hnok hdok hl1 hl2 s0 s1 s2 s3 s5 s6 s8).mono ?_
  rw [hs]
  rintro e w' ⟨A, c, rfl, hx, ⟨m', _, h4, h5⟩, h6, h7⟩
  exact ⟨A, c, rfl, hx, ⟨h7, m', h4, h5⟩, Sl.of_own askCells_len h6 rfl⟩

theorem pick_any (c n : Int) (w : World) (hn : 0 < n) (hn2 : n < 1000) (hc : InR c) :
    Calls Try.prog 7 #[.int .i64 c, .int .i64 n] w fun e w' => (∃ k : Nat, e = .returned (.int .i64 k) ∧ (k : Int) < n) ∧ w = w' := by
  obtain ⟨hc1, hc2⟩ := hc
  by_cases h : c < 0
  · go_enter Try.func7, Try.ntmps7
    go_wp2
    go_ret
    have h1 := Int.tmod_nonneg n (a := -(c + 1)) (by omega)
    have h2 := Int.tmod_lt_of_pos (-(c + 1)) hn
    have e1 : -((c + 1).tmod n) = (-(c + 1)).tmod n := by rw [Int.neg_tmod]
    exact ⟨⟨((-(c + 1)).tmod n).toNat, ret_int (by rw [Int.toNat_of_nonneg h1]; exact e1), by omega⟩, rfl⟩
  · go_enter Try.func7, Try.ntmps7
    go_wp2
    go_ret
    have h1 := Int.emod_nonneg c (b := n) (by omega)
    have h2 := Int.emod_lt_of_pos c hn
    exact ⟨⟨(c % n).toNat, ret_int (by rw [Int.toNat_of_nonneg h1]), by omega⟩, rfl⟩

def kLv : Key := (false, 1, 2, 5)
def nLv : NodeD := ⟨1, 0, 0, true, false, 0, 2, 5⟩
def lvL : Nat → List (Key × Int)
  | 0 => []
  | k + 1 => [(kLv, k)]
theorem lv_step (k : Nat) (h : k < 20) : tickF (lvL k) [nLv] [] = (lvL (k + 1), []) := by
  cases k with
  | zero => rfl
  | succ k =>
    have h1 : ¬ ((20 : Int) ≤ (k : Int) + 1) := by omega
    simp [tickF, stepN, nLv, goesF, aget, lvL, kLv, h1]
theorem lv_last : tickF (lvL 20) [nLv] [] = ([(kLv, 17)], [⟨7, 0, 0, 1, 2, 5⟩]) := by
  simp [tickF, stepN, nLv, goesF, aget, lvL, kLv]

set_option maxHeartbeats 1000000 in
theorem lives_any (w : World) : Calls Try.prog 9 #[] w fun e w' => e = .returned (.bool true) ∧ Ext Nothing w w' := by
  go_enter Try.func9, Try.ntmps9
  go_wp2_with (go_at_call 6; refine (new_life _).mono ?_; rintro e w1 ⟨rfl, hL, hx1⟩)
  have hx2 : Ext Nothing w1 ((w1.alloc (.cells #[.int .i64 1, .int .i64 0, .int .i64 0, .bool true, .bool false, .int .i64 0, .int .i64 2, .int .i64 5] 28)).alloc (.cells #[.int .i64 0, .int .i64 0, .slice none 0 0, .slice none 0 0, .slice (some ⟨w1.heap.size, 0, none⟩) 1 1, .slice none 0 0, .slice none 0 0, .slice none 0 0, .slice none 0 0] 35)) := ((Ext.refl _ _).alloc _).alloc _
  have hb1 : Blk ((w1.alloc (.cells #[.int .i64 1, .int .i64 0, .int .i64 0, .bool true, .bool false, .int .i64 0, .int .i64 2, .int .i64 5] 28)).alloc (.cells #[.int .i64 0, .int .i64 0, .slice none 0 0, .slice none 0 0, .slice (some ⟨w1.heap.size, 0, none⟩) 1 1, .slice none 0 0, .slice none 0 0, .slice none 0 0, .slice none 0 0] 35)) w1.heap.size 28 #[.int .i64 1, .int .i64 0, .int .i64 0, .bool true, .bool false, .int .i64 0, .int .i64 2, .int .i64 5] := (Blk.new' _ _ _ rfl).ext ((Ext.refl Nothing _).alloc _) (fun e => e)
  have hb2 : Blk ((w1.alloc (.cells #[.int .i64 1, .int .i64 0, .int .i64 0, .bool true, .bool false, .int .i64 0, .int .i64 2, .int .i64 5] 28)).alloc (.cells #[.int .i64 0, .int .i64 0, .slice none 0 0, .slice none 0 0, .slice (some ⟨w1.heap.size, 0, none⟩) 1 1, .slice none 0 0, .slice none 0 0, .slice none 0 0, .slice none 0 0] 35)) (w1.heap.size + 1) 35 #[.int .i64 0, .int .i64 0, .slice none 0 0, .slice none 0 0, .slice (some ⟨w1.heap.size, 0, none⟩) 1 1, .slice none 0 0, .slice none 0 0, .slice none 0 0, .slice none 0 0] := Blk.new' _ _ _ (by simp)
  have hlt1 := hL.lt
  have hsz := hx1.size
  have nok : ∀ x ∈ [nLv], x.ok := by
    intro x hx
    simp at hx
    subst hx
    simp [NodeD.ok, nLv, InR]
  go_loopw [3] (fun i wr => ∃ k : Nat, k ≤ 20 ∧ i = .int .i64 k ∧ LifeIs wr (w.heap.size + 1) (lvL k) ∧ Blk wr w1.heap.size 28 #[.int .i64 1, .int .i64 0, .int .i64 0, .bool true, .bool false, .int .i64 0, .int .i64 2, .int .i64 5] ∧
      Blk wr (w1.heap.size + 1) 35 #[.int .i64 0, .int .i64 0, .slice none 0 0, .slice none 0 0, .slice (some ⟨w1.heap.size, 0, none⟩) 1 1, .slice none 0 0, .slice none 0 0, .slice none 0 0, .slice none 0 0] ∧ Ext Nothing w wr)
    (fun i _ => 20 - (intOf i).toNat)
  case atStart => exact ⟨0, by omega, rfl, hL.ext0 hx2, hb1, hb2, hx1.trans hx2 (fun _ _ e => e)⟩
  case round =>
    clear hL hx2 hb1 hb2
    obtain ⟨k, hk, rfl, hL, hb1, hb2, hx2⟩ := hrel
    by_cases hlt : k < 20
    · have hbl := hL.blk
      obtain ⟨mm, hbl⟩ := hbl
      have g1 : ¬ w1.heap.size = w.heap.size + 1 := by omega
      have g2 : ¬ w1.heap.size + 1 = w.heap.size + 1 := by omega
      go_wp2_with (first | (refine wpList_load_blk rfl 35 _ rfl ST35 _ rfl _ (by exact hb2) rfl ?_) | (go_at_call 8; refine (tick_life wr (w.heap.size + 1) _ hL _ _ 1 0 _ _ [nLv] [] (Sl.of_blk [nLv] nodeCells_len hb1 rfl rfl) (Sl.nil _ _ _) nok (by simp) (by decide) (by decide) _ _ _ _ _ _ _ _ _ (lv_step k hlt)).mono ?_; rintro e w' ⟨A, c, rfl, hx, hL', _⟩))
      go_roundw
      case rel => exact ⟨k + 1, by omega, by go_num, hL', hb1.ext hx g1, hb2.ext hx g2, hx2.trans hx (fun _ _ e => by omega)⟩
      case measure => simp [intOf]; omega
    · obtain rfl : k = 20 := by omega
      go_wp2_with (first | (refine wpList_load_blk rfl 35 _ rfl ST35 _ rfl _ (by exact hb2) rfl ?_) | (go_at_call 8; refine (tick_life wr (w.heap.size + 1) _ hL _ _ 1 0 _ _ [nLv] [] (Sl.of_blk [nLv] nodeCells_len hb1 rfl rfl) (Sl.nil _ _ _) nok (by simp) (by decide) (by decide) _ _ _ _ _ _ _ _ _ lv_last).mono ?_; rintro e w' ⟨A, c, rfl, hx, hL', hA⟩; obtain ⟨_, b, off, rfl, hce⟩ := Sl.get (xs := [(⟨7, 0, 0, 1, 2, 5⟩ : Ask)]) hA (Ext.refl _ _) (k := 0) (by decide); have c0 : w'.cell? ⟨b, off, none⟩ = some (.int .i64 7) := hce 0 _ rfl; have c1 : w'.cell? ⟨b, off + 16, none⟩ = some (.int .i64 2) := hce 16 _ rfl; have c2 : w'.cell? ⟨b, off + 17, none⟩ = some (.int .i64 5) := hce 17 _ rfl))
      go_ret
      exact ⟨rfl, hx2.trans hx (fun _ _ e => by omega)⟩
end Go.Proofs.Ytaibifaeljnchaa
