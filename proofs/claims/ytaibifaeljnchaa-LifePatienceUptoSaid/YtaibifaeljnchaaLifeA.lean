/- Life: what a key reads as; the closure in Tick. -/
import Derived.Test.YtaibifaeljnchaaBase
import Derived.Test.YtaibifaeljnchaaRows
namespace Go.Proofs.Ytaibifaeljnchaa
set_option linter.unusedVariables false
open Go.RowKit
open Go.Maps (Keyed)

abbrev Key := Bool × Int × Int × Int
abbrev encK (k : Key) : Value := .agg #[.bool k.1, .int .i64 k.2.1, .int .i64 k.2.2.1, .int .i64 k.2.2.2]
abbrev encN (n : Int) : Value := .int .i64 n
def InR (a : Int) : Prop := -9223372036854775808 ≤ a ∧ a ≤ 9223372036854775807
def Key.ok (k : Key) : Prop := InR k.2.1 ∧ InR k.2.2.1 ∧ InR k.2.2.2
theorem encK_inj (x y : Key) (h : encK x = encK y) : x = y := by
  obtain ⟨a, b, c, d⟩ := x
  obtain ⟨a', b', c', d'⟩ := y
  simpa [encK] using h
theorem c67 : Try.prog.cellsOf 67 = 4 := by kernel_rfl
theorem c3 : Try.prog.cellsOf 3 = 1 := by kernel_rfl
theorem c4 : Try.prog.cellsOf 4 = 1 := by kernel_rfl
theorem kt67 : Try.prog.keyType 67 = true := by kernel_rfl
theorem key67 {k : Key} (hk : k.ok) : ∃ l, keyOf Try.prog 67 (encK k) = some l := by
  obtain ⟨d, a, b, c⟩ := k
  obtain ⟨⟨a1, a2⟩, ⟨b1, b2⟩, ⟨c1, c2⟩⟩ := hk
  have ha : (Lit.int .i64 a).wf = true := WalkArith.wf_i64 (by simp only at *; omega)
  have hb : (Lit.int .i64 b).wf = true := WalkArith.wf_i64 (by simp only at *; omega)
  have hc : (Lit.int .i64 c).wf = true := WalkArith.wf_i64 (by simp only at *; omega)
  obtain ⟨n, hn⟩ : ∃ n, Try.prog.types.size + 1 = n + 2 := ⟨_, rfl⟩
  have hf : (Value.agg #[.bool d, .int .i64 a, .int .i64 b, .int .i64 c]).formed Try.prog 67 = true := by simp [Value.formed, Try.underlying67, c67]
  have hl : Try.prog.keyLits (n + 2) 67 [.bool d, .int .i64 a, .int .i64 b, .int .i64 c] = some [.bool d, .int .i64 a, .int .i64 b, .int .i64 c] := by
    rw [keyLits_struct Try.underlying67 (by rw [c67]; rfl) (by kernel_rfl)]
    simp [keyLits_int Try.underlying3 ha, keyLits_int Try.underlying3 hb, keyLits_int Try.underlying3 hc, keyLits_bool Try.underlying4, c3, c4]
  simp only [keyOf, Try.underlying67, kt67, hf, hn, Bool.and_self, if_true]
  exact ⟨_, by rw [show (Value.agg #[.bool d, .int .i64 a, .int .i64 b, .int .i64 c]).cells.toList = [.bool d, .int .i64 a, .int .i64 b, .int .i64 c] from rfl, hl]; rfl⟩
theorem laidOut : laidOutB Try.prog = true := by kernel_rfl
theorem law67 : Keyed Try.prog 67 := Keyed.of_law (deep_law_laid laidOut (m := 2) (by omega) (of_decide_eq_true (by kernel_rfl)) (by kernel_rfl) (by rw [Try.underlying67]))
theorem zero3 (w : World) : (zeroValue 3).run Try.prog w = .ok (.int .i64 0) w := by kernel_rfl
abbrev Clocks (w : World) (b : Nat) (L : List (Key × Int)) : Prop := MapIs Try.prog 67 encK encN w b L

theorem new_any (w : World) :
    Calls Try.prog 6 #[] w fun e w' => e = .returned (.pointer (some ⟨w.heap.size + 1, 0, none⟩)) ∧ Clocks w' w.heap.size [] ∧ Blk w' (w.heap.size + 1) 65 #[.map (some w.heap.size)] ∧ Ext Nothing w w' := by
  have hmm := @run_makeMap Try.prog
  go_enter Try.func6, Try.ntmps6
  go_wp2
  go_ret
  refine ⟨rfl, ?_, ?_, ?_⟩
  · exact (MapIs.new w).ext (S := Nothing) ((Ext.refl _ _).alloc _) (fun e => e)
  · exact Blk.new' _ _ _ (by simp)
  · exact ((Ext.refl _ _).alloc _).alloc _



/-- the clock at a key -/
theorem look_at {w : World} {b : Nat} {L : List (Key × Int)} (h : Clocks w b L) {k : Key} (hk : k.ok) :
    (Instr.lookup 63 (.map (some b)) (.agg #[.bool k.1, .int .i64 k.2.1, .int .i64 k.2.2.1, .int .i64 k.2.2.2]) true).run Try.prog w = .ok (.tuple #[(aget k L).elim (.int .i64 0) encN, .bool (aget k L).isSome]) w := by
  obtain ⟨l, hl⟩ := key67 hk
  simpa using h.look law67 encK_inj Try.underlying63 (zero3 w) hl true

set_option maxHeartbeats 1000000 in
theorem tick1_in (d : Bool) (id ep sq : Int) (hk : Key.ok (d, id, ep, sq)) (en : Int) (bn mn lb bl m bo : Nat) (cs : Array Value) (w : World) (L N : List (Key × Int)) (v : Value) (n : Int)
    (hN : Clocks w mn N) (hbn : Blk w bn 63 #[.map (some mn)]) (hlb : Blk w lb 23 #[.pointer (some ⟨bl, 0, none⟩)]) (hbl : Blk w bl 65 #[.map (some m)]) (hL : Clocks w m L) (hbo : Blk w bo 37 #[v])
    (hin : aget (d, id, ep, sq) N = some n) :
    Calls Try.prog 15 #[.agg #[.bool d, .int .i64 id, .int .i64 ep, .int .i64 sq], .int .i64 en, .agg cs, .pointer (some ⟨bn, 0, none⟩), .pointer (some ⟨lb, 0, none⟩), .pointer (some ⟨bo, 0, none⟩)] w fun e w' => e = .returned (.tuple #[]) ∧ Ext Nothing w w' := by
  have hx1 : Ext Nothing w (w.alloc (.cells #[.bool d, .int .i64 id, .int .i64 ep, .int .i64 sq] 67)) := (Ext.refl _ _).alloc _
  have hx2 : Ext Nothing w ((w.alloc (.cells #[.bool d, .int .i64 id, .int .i64 ep, .int .i64 sq] 67)).alloc (.cells cs 49)) := hx1.alloc _
  have q1 := look_at (hN.ext hx2 (fun e => e)) hk
  have q2 : ((w.alloc (.cells #[.bool d, .int .i64 id, .int .i64 ep, .int .i64 sq] 67)).alloc (.cells cs 49)).cell? ⟨bn, 0, none⟩ = some (.map (some mn)) := hx2.cell (hbn.cell 0) (fun e => e)
  simp only [hin, Option.elim, Option.isSome] at q1
  have e1 := Lib.hid hin
  clear hin hx1 hx2
  go_enter Try.func15, Try.ntmps15
  go_wp2
  refine bodyPost_ret (results_none rfl _ _ _) rfl ?_
  exact ⟨rfl, ((Ext.refl _ _).alloc _).alloc _⟩

set_option maxHeartbeats 1000000 in
theorem tick1_new (d : Bool) (id ep sq : Int) (hk : Key.ok (d, id, ep, sq)) (en : Int) (bn mn lb bl m bo : Nat) (cs : Array Value) (w : World) (L N : List (Key × Int)) (v : Value)
    (hN : Clocks w mn N) (hbn : Blk w bn 63 #[.map (some mn)]) (hlb : Blk w lb 23 #[.pointer (some ⟨bl, 0, none⟩)]) (hbl : Blk w bl 65 #[.map (some m)]) (hL : Clocks w m L) (hbo : Blk w bo 37 #[v])
    (hin : aget (d, id, ep, sq) N = none) (hn : aget (d, id, ep, sq) L = none) (hen : 0 < en) :
    Calls Try.prog 15 #[.agg #[.bool d, .int .i64 id, .int .i64 ep, .int .i64 sq], .int .i64 en, .agg cs, .pointer (some ⟨bn, 0, none⟩), .pointer (some ⟨lb, 0, none⟩), .pointer (some ⟨bo, 0, none⟩)] w fun e w' => 
      e = .returned (.tuple #[]) ∧ Ext (fun b => b = mn) w w' ∧ Clocks w' mn (N ++ [((d, id, ep, sq), 0)]) := by
  have hx1 : Ext Nothing w (w.alloc (.cells #[.bool d, .int .i64 id, .int .i64 ep, .int .i64 sq] 67)) := (Ext.refl _ _).alloc _
  have hx2 : Ext Nothing w ((w.alloc (.cells #[.bool d, .int .i64 id, .int .i64 ep, .int .i64 sq] 67)).alloc (.cells cs 49)) := hx1.alloc _
  have q0 := hN.ext hx2 (fun e => e)
  have q1 := look_at q0 hk
  have q2 : ((w.alloc (.cells #[.bool d, .int .i64 id, .int .i64 ep, .int .i64 sq] 67)).alloc (.cells cs 49)).cell? ⟨bn, 0, none⟩ = some (.map (some mn)) := hx2.cell (hbn.cell 0) (fun e => e)
  have q3 : ((w.alloc (.cells #[.bool d, .int .i64 id, .int .i64 ep, .int .i64 sq] 67)).alloc (.cells cs 49)).cell? ⟨lb, 0, none⟩ = some (.pointer (some ⟨bl, 0, none⟩)) := hx2.cell (hlb.cell 0) (fun e => e)
  have q4 : ((w.alloc (.cells #[.bool d, .int .i64 id, .int .i64 ep, .int .i64 sq] 67)).alloc (.cells cs 49)).cell? ⟨bl, 0, none⟩ = some (.map (some m)) := hx2.cell (hbl.cell 0) (fun e => e)
  have q5 := fun j => look_at (hL.ext (hx2.drewN j) (fun e => e)) hk
  obtain ⟨kl, hkl⟩ := key67 hk
  simp only [hin, Option.elim, Option.isSome] at q1
  have e1 := Lib.hid hin
  clear hin hx1
  simp only [hn, Option.elim, Option.isSome] at q5
  have e2 := Lib.hid hn
  clear hn
  go_enter Try.func15, Try.ntmps15
  go_wp2
  go_quiet (fail)
  go_wp2_with (at_mapUpdate; refine wpList_put _ rfl _ _ _ 63 3 rfl law67 encK_inj Try.underlying63 (hN.ext (S := Nothing) (hx2.drewN _) (fun e => e)) rfl (d, id, ep, sq) rfl 0 rfl hkl ?_; intro w1 r1 r2)
  go_end0
  refine ⟨rfl, (Ext.mono (hx2.drewN _) (fun _ _ e => e.elim)).grown r2 (fun g e => .inr (by injection e with e; exact e.symm)), ?_⟩
  rw [← aput_of_none e1.out]
  exact r1
set_option maxHeartbeats 1000000 in
theorem tick1_old (d : Bool) (id ep sq : Int) (hk : Key.ok (d, id, ep, sq)) (en : Int) (bn mn lb bl m bo : Nat) (cs : Array Value) (w : World) (L N : List (Key × Int)) (v : Value)
    (hN : Clocks w mn N) (hbn : Blk w bn 63 #[.map (some mn)]) (hlb : Blk w lb 23 #[.pointer (some ⟨bl, 0, none⟩)]) (hbl : Blk w bl 65 #[.map (some m)]) (hL : Clocks w m L) (hbo : Blk w bo 37 #[v])
    (hin : aget (d, id, ep, sq) N = none) (c : Int) (hn : aget (d, id, ep, sq) L = some c) (hc0 : 0 ≤ c) (hen : c + 1 < en) (he2 : en < 100) :
    Calls Try.prog 15 #[.agg #[.bool d, .int .i64 id, .int .i64 ep, .int .i64 sq], .int .i64 en, .agg cs, .pointer (some ⟨bn, 0, none⟩), .pointer (some ⟨lb, 0, none⟩), .pointer (some ⟨bo, 0, none⟩)] w fun e w' => 
      e = .returned (.tuple #[]) ∧ Ext (fun b => b = mn) w w' ∧ Clocks w' mn (N ++ [((d, id, ep, sq), c + 1)]) := by
  have hx1 : Ext Nothing w (w.alloc (.cells #[.bool d, .int .i64 id, .int .i64 ep, .int .i64 sq] 67)) := (Ext.refl _ _).alloc _
  have hx2 : Ext Nothing w ((w.alloc (.cells #[.bool d, .int .i64 id, .int .i64 ep, .int .i64 sq] 67)).alloc (.cells cs 49)) := hx1.alloc _
  have q0 := hN.ext hx2 (fun e => e)
  have q1 := look_at q0 hk
  have q2 : ((w.alloc (.cells #[.bool d, .int .i64 id, .int .i64 ep, .int .i64 sq] 67)).alloc (.cells cs 49)).cell? ⟨bn, 0, none⟩ = some (.map (some mn)) := hx2.cell (hbn.cell 0) (fun e => e)
  have q3 : ((w.alloc (.cells #[.bool d, .int .i64 id, .int .i64 ep, .int .i64 sq] 67)).alloc (.cells cs 49)).cell? ⟨lb, 0, none⟩ = some (.pointer (some ⟨bl, 0, none⟩)) := hx2.cell (hlb.cell 0) (fun e => e)
  have q4 : ((w.alloc (.cells #[.bool d, .int .i64 id, .int .i64 ep, .int .i64 sq] 67)).alloc (.cells cs 49)).cell? ⟨bl, 0, none⟩ = some (.map (some m)) := hx2.cell (hbl.cell 0) (fun e => e)
  have q5 := fun j => look_at (hL.ext (hx2.drewN j) (fun e => e)) hk
  obtain ⟨kl, hkl⟩ := key67 hk
  simp only [hin, Option.elim, Option.isSome] at q1
  have e1 := Lib.hid hin
  clear hin hx1
  simp only [hn, Option.elim, Option.isSome] at q5
  have e2 := Lib.hid hn
  clear hn
  go_enter Try.func15, Try.ntmps15
  go_wp2
  go_quiet (fail)
  go_wp2_with (at_mapUpdate; refine wpList_put _ rfl _ _ _ 63 3 rfl law67 encK_inj Try.underlying63 (hN.ext (S := Nothing) (hx2.drewN _) (fun e => e)) rfl (d, id, ep, sq) rfl (c + 1) rfl hkl ?_; intro w1 r1 r2)
  go_end0
  refine ⟨rfl, (Ext.mono (hx2.drewN _) (fun _ _ e => e.elim)).grown r2 (fun g e => .inr (by injection e with e; exact e.symm)), ?_⟩
  rw [← aput_of_none e1.out]
  exact r1
end Go.Proofs.Ytaibifaeljnchaa
