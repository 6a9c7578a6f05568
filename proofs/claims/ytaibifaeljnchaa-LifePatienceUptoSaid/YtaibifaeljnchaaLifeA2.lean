/- Life: the closure of Tick: what it does to the clocks and to what is asked. -/
import Derived.Test.YtaibifaeljnchaaLifeA
namespace Go.Proofs.Ytaibifaeljnchaa
set_option linter.unusedVariables false
open Go.RowKit
open Go.Maps (Keyed)
theorem SL37 : SliceT Try.prog 37 49 27 := .of (by kernel_rfl)
theorem ST49 : StructT Try.prog 49 27 := .of (by kernel_rfl)
theorem ST67 : StructT Try.prog 67 4 := .of (by kernel_rfl)
set_option maxHeartbeats 1000000 in
theorem tick1_ask (d : Bool) (id ep sq : Int) (hk : Key.ok (d, id, ep, sq)) (en : Int) (bn mn lb bl m bo : Nat) (cs : Array Value) (w : World) (L N : List (Key × Int)) (v : Value)
    (hN : Clocks w mn N) (hbn : Blk w bn 63 #[.map (some mn)]) (hlb : Blk w lb 23 #[.pointer (some ⟨bl, 0, none⟩)]) (hbl : Blk w bl 65 #[.map (some m)]) (hL : Clocks w m L) (hbo : Blk w bo 37 #[v])
    (hin : aget (d, id, ep, sq) N = none) (c : Int) (hn : aget (d, id, ep, sq) L = some c) (hc0 : 0 ≤ c) (hen : en ≤ c + 1) (hc2 : c < 100) (he1 : 3 < en) (he2 : en < 100) (hcs : cs.size = 27) (hcs1 : cs.toList.all Value.oneCell' = true) (base n : Nat) (xs : List Value) (hown : w.ownsRow base 49 27 v n xs) (hbase : base ≤ w.heap.size) (hnl : n < 67108864) :
    Calls Try.prog 15 #[.agg #[.bool d, .int .i64 id, .int .i64 ep, .int .i64 sq], .int .i64 en, .agg cs, .pointer (some ⟨bn, 0, none⟩), .pointer (some ⟨lb, 0, none⟩), .pointer (some ⟨bo, 0, none⟩)] w fun e w' => 
      e = .returned (.tuple #[]) ∧ Ext (fun b => b = mn ∨ b = bo ∨ v.ownBlock = some b) w w' ∧ Clocks w' mn (N ++ [((d, id, ep, sq), en - 3)]) ∧ ∃ v', Blk w' bo 37 #[v'] ∧ w'.ownsRow base 49 27 v' (n + 1) (xs ++ cs.toList) := by
  have hx1 : Ext Nothing w (w.alloc (.cells #[.bool d, .int .i64 id, .int .i64 ep, .int .i64 sq] 67)) := (Ext.refl _ _).alloc _
  have hx2 : Ext Nothing w ((w.alloc (.cells #[.bool d, .int .i64 id, .int .i64 ep, .int .i64 sq] 67)).alloc (.cells cs 49)) := hx1.alloc _
  have q0 := hN.ext hx2 (fun e => e)
  have q1 := look_at q0 hk
  have q2 : ((w.alloc (.cells #[.bool d, .int .i64 id, .int .i64 ep, .int .i64 sq] 67)).alloc (.cells cs 49)).cell? ⟨bn, 0, none⟩ = some (.map (some mn)) := hx2.cell (hbn.cell 0) (fun e => e)
  have q3 : ((w.alloc (.cells #[.bool d, .int .i64 id, .int .i64 ep, .int .i64 sq] 67)).alloc (.cells cs 49)).cell? ⟨lb, 0, none⟩ = some (.pointer (some ⟨bl, 0, none⟩)) := hx2.cell (hlb.cell 0) (fun e => e)
  have q4 : ((w.alloc (.cells #[.bool d, .int .i64 id, .int .i64 ep, .int .i64 sq] 67)).alloc (.cells cs 49)).cell? ⟨bl, 0, none⟩ = some (.map (some m)) := hx2.cell (hbl.cell 0) (fun e => e)
  have q5 := fun j => look_at (hL.ext (hx2.drewN j) (fun e => e)) hk
  obtain ⟨kl, hkl⟩ := key67 hk
  simp only [hin, Option.elim, Option.isSome] at q1
  have e1 := Lib.hid hin
  clear hin hx1
  simp only [hn, Option.elim, Option.isSome] at q5
  have e2 := Lib.hid hn
  clear hn
  have hW : Blk ((w.alloc (.cells #[.bool d, .int .i64 id, .int .i64 ep, .int .i64 sq] 67)).alloc (.cells cs 49)) (w.heap.size + 1) 49 cs := Blk.new' _ _ _ (by simp)
  have q6 : ((w.alloc (.cells #[.bool d, .int .i64 id, .int .i64 ep, .int .i64 sq] 67)).alloc (.cells cs 49)).cell? ⟨bo, 0, none⟩ = some v := hx2.cell (hbo.cell 0) (fun e => e)
  go_enter Try.func15, Try.ntmps15
  go_wp2
  go_quiet (fail)
  go_wp2_with (first | (refine wpList_load_blk rfl 49 _ rfl ST49 (w.heap.size + 1) rfl cs (by exact hW) hcs ?_) | (refine wpList_slice1 rfl 37 _ rfl SL37 cs rfl hcs ?_) | (at_builtin; refine wpList_app1 rfl _ _ 37 rfl base SL37 v n xs rfl ?hown _ _ cs rfl ?hb hcs hcs1 hnl ?hbase ?_))
  case hown => exact own_ext hown ((hx2.drewN _).alloc _) (fun _ _ e => e)
  case hb => exact Blk.new' _ _ _ (by simp)
  case hbase => simp; omega
  intro A1 cp1 w1 r1 r2
  have hx3 : Ext (fun b => v.ownBlock = some b) w w1 := (Ext.mono ((hx2.drewN _).alloc _) (fun _ _ e => e.elim)).grown r2 (fun g e => .inr e)
  have n1 : v.ownBlock ≠ some bo := own_ne hown hbo (by decide)
  have n2 : v.ownBlock ≠ some bn := own_ne hown hbn (by decide)
  have n3 : v.ownBlock ≠ some mn := own_ne_map hown hN
  have n4 : v.ownBlock ≠ some w.heap.size := fun e => by have := own_lt hown e; omega
  have n5 : bn ≠ bo := hbn.ne hbo (by decide)
  have n6 : mn ≠ bo := hN.ne_blk hbo
  have n7 : w.heap.size ≠ bo := by have := hbo.lt; omega
  have q7 : w1.cell? ⟨bo, 0, none⟩ = some v := hx3.cell (hbo.cell 0) n1
  have q8 : w1.frozen? ⟨bo, 0, none⟩ = false := (hbo.ext hx3 n1).frozen 0
  have q9 : w1.cell? ⟨bn, 0, none⟩ = some (.map (some mn)) := hx3.cell (hbn.cell 0) n2
  have q10 : Blk (w1.setCell ⟨bo, 0, none⟩ (.slice A1 (n + 1) cp1)) w.heap.size 67 #[.bool d, .int .i64 id, .int .i64 ep, .int .i64 sq] := by
    have h1 := r2.block w.heap.size (by simp; omega) (fun e => n4 e.symm)
    show _ = _
    rw [Below.heap_setCell _ _ _ _ n7, h1]
    exact (Below.heap_alloc _ _ _ (by simp; omega)).trans ((Below.heap_alloc _ _ _ (by simp)).trans (heap_alloc_new _ _))
  have hx4 : Ext (fun b => b = bo ∨ v.ownBlock = some b) w (w1.setCell ⟨bo, 0, none⟩ (.slice A1 (n + 1) cp1)) := Ext.setCell (hx3.mono (fun _ _ e => .inr e)) (.inr (.inl rfl)) _
  go_wp2_with (first | (refine wpList_load_blk rfl 67 _ rfl ST67 w.heap.size rfl #[.bool d, .int .i64 id, .int .i64 ep, .int .i64 sq] (by exact q10) rfl ?_) | (at_mapUpdate; refine wpList_put _ rfl _ _ _ 63 3 rfl law67 encK_inj Try.underlying63 (hN.ext hx4 (by rintro (e | e); exact n6 e; exact n3 e)) rfl (d, id, ep, sq) rfl (en - 3) rfl hkl ?_; intro w2 r3 r4))
  go_end0
  refine ⟨rfl, (hx4.mono (fun _ _ e => .inr e)).grown r4 (fun g e => .inr (.inl (by injection e with e; exact e.symm))), ?_, .slice A1 (n + 1) cp1, ?_, ?_⟩
  · rw [← aput_of_none e1.out]
    exact r3
  · have h1 := (hbo.ext hx3 n1).set_ 0 (.slice A1 (n + 1) cp1)
    exact h1.ext (Ext.of_grown (S := fun g => g = mn) r4 (fun g e => by injection e with e; exact e.symm)) (fun e => n6 e.symm)
  · have h2 : Ext (fun b => b = bo) w1 (w1.setCell ⟨bo, 0, none⟩ (.slice A1 (n + 1) cp1)) := Ext.setCell (Ext.refl (fun b => b = bo) w1) (p := ⟨bo, 0, none⟩) (.inr rfl) _
    have m1 := own_ne r1 (hbo.ext hx3 n1) (by decide)
    have m2 := own_ne_map r1 (hN.ext hx3 n3)
    exact own_ext (S := fun b => b = mn) (own_ext r1 h2 (fun g e h => m1 (h ▸ e))) (Ext.of_grown r4 (fun g e => by injection e with e; exact e.symm)) (fun g e h => m2 (h ▸ e))

/-- a clock goes on: the clocks then; does it ask? -/
def goesF (L N : List (Key × Int)) (k : Key) (en : Int) : List (Key × Int) × Bool :=
  match aget k N with
  | some _ => (N, false)
  | none =>
    let n := match aget k L with | none => 0 | some c => c + 1
    if en ≤ n then (N ++ [(k, en - 3)], true) else (N ++ [(k, n)], false)
def LOk (L : List (Key × Int)) : Prop := ∀ p ∈ L, 0 ≤ p.2 ∧ p.2 < 100
theorem LOk.at_ {L : List (Key × Int)} (h : LOk L) {k : Key} {c : Int} (hc : aget k L = some c) : 0 ≤ c ∧ c < 100 := by
  induction L with
  | nil => cases hc
  | cons p r ih =>
    rw [aget] at hc
    split at hc
    · cases hc; exact h p (List.mem_cons_self ..)
    · exact ih (fun q hq => h q (List.mem_cons_of_mem _ hq)) hc
theorem goesF_ok {L N : List (Key × Int)} (hL : LOk L) (hN : LOk N) (k : Key) {en : Int} (h1 : 3 < en) (h2 : en < 100) : LOk (goesF L N k en).1 := by
  unfold goesF
  split
  · exact hN
  · cases hc : aget k L with
    | none =>
      simp only
      rw [if_neg (by omega)]
      intro p hp
      rcases List.mem_append.1 hp with hp | hp
      · exact hN p hp
      · simp at hp; subst hp; simp
    | some c =>
      have h3 := hL.at_ hc
      simp only
      split
      · intro p hp
        rcases List.mem_append.1 hp with hp | hp
        · exact hN p hp
        · simp at hp; subst hp; simp; omega
      · intro p hp
        rcases List.mem_append.1 hp with hp | hp
        · exact hN p hp
        · simp at hp; subst hp; simp; omega

/-- What the closure does: the new clocks, and what is asked. -/
theorem tick1_any (k : Key) (hk : k.ok) (en : Int) (he1 : 3 < en) (he2 : en < 100) (bn mn lb bl m bo : Nat) (cs : Array Value) (w : World) (L N : List (Key × Int)) (v : Value) (hLo : LOk L)
    (hN : Clocks w mn N) (hbn : Blk w bn 63 #[.map (some mn)]) (hlb : Blk w lb 23 #[.pointer (some ⟨bl, 0, none⟩)]) (hbl : Blk w bl 65 #[.map (some m)]) (hL : Clocks w m L) (hbo : Blk w bo 37 #[v])
    (hcs : cs.size = 27) (hcs1 : cs.toList.all Value.oneCell' = true) (base n : Nat) (xs : List Value) (hown : w.ownsRow base 49 27 v n xs) (hbase : base ≤ w.heap.size) (hnl : n < 67108864) :
    Calls Try.prog 15 #[.agg #[.bool k.1, .int .i64 k.2.1, .int .i64 k.2.2.1, .int .i64 k.2.2.2], .int .i64 en, .agg cs, .pointer (some ⟨bn, 0, none⟩), .pointer (some ⟨lb, 0, none⟩), .pointer (some ⟨bo, 0, none⟩)] w fun e w' =>
      e = .returned (.tuple #[]) ∧ Ext (fun b => b = mn ∨ b = bo ∨ v.ownBlock = some b) w w' ∧ Clocks w' mn (goesF L N k en).1 ∧
      ∃ v', Blk w' bo 37 #[v'] ∧ w'.ownsRow base 49 27 v' (n + if (goesF L N k en).2 then 1 else 0) (xs ++ if (goesF L N k en).2 then cs.toList else []) := by
  obtain ⟨d, id, ep, sq⟩ := k
  have n1 : v.ownBlock ≠ some bo := own_ne hown hbo (by decide)
  have n3 : v.ownBlock ≠ some mn := own_ne_map hown hN
  have n6 : mn ≠ bo := hN.ne_blk hbo
  cases hin : aget (d, id, ep, sq) N with
  | some n =>
    refine (tick1_in d id ep sq hk en bn mn lb bl m bo cs w L N v n hN hbn hlb hbl hL hbo hin).mono ?_
    rintro e w' ⟨rfl, hx⟩
    have hg : goesF L N (d, id, ep, sq) en = (N, false) := by simp [goesF, hin]
    rw [hg]
    refine ⟨rfl, hx.mono (fun _ _ e => e.elim), hN.ext hx (fun e => e), v, hbo.ext hx (fun e => e), ?_⟩
    simpa using own_ext hown hx (fun _ _ e => e)
  | none =>
    cases hc : aget (d, id, ep, sq) L with
    | none =>
      refine (tick1_new d id ep sq hk en bn mn lb bl m bo cs w L N v hN hbn hlb hbl hL hbo hin hc (by omega)).mono ?_
      rintro e w' ⟨rfl, hx, hcl⟩
      have hg : goesF L N (d, id, ep, sq) en = (N ++ [((d, id, ep, sq), 0)], false) := by simp [goesF, hin, hc]; omega
      rw [hg]
      refine ⟨rfl, hx.mono (fun _ _ e => .inl e), hcl, v, hbo.ext hx (fun e => n6 e.symm), ?_⟩
      simpa using own_ext hown hx (fun g h e => n3 (e ▸ h))
    | some c =>
      obtain ⟨hc0, hc1⟩ := hLo.at_ hc
      by_cases hen : c + 1 < en
      · refine (tick1_old d id ep sq hk en bn mn lb bl m bo cs w L N v hN hbn hlb hbl hL hbo hin c hc hc0 hen he2).mono ?_
        rintro e w' ⟨rfl, hx, hcl⟩
        have hg : goesF L N (d, id, ep, sq) en = (N ++ [((d, id, ep, sq), c + 1)], false) := by simp [goesF, hin, hc]; omega
        rw [hg]
        refine ⟨rfl, hx.mono (fun _ _ e => .inl e), hcl, v, hbo.ext hx (fun e => n6 e.symm), ?_⟩
        simpa using own_ext hown hx (fun g h e => n3 (e ▸ h))
      · refine (tick1_ask d id ep sq hk en bn mn lb bl m bo cs w L N v hN hbn hlb hbl hL hbo hin c hc hc0 (by omega) hc1 he1 he2 hcs hcs1 base n xs hown hbase hnl).mono ?_
        rintro e w' ⟨rfl, hx, hcl, v', h1, h2⟩
        have hg : goesF L N (d, id, ep, sq) en = (N ++ [((d, id, ep, sq), en - 3)], true) := by
          have h0 : goesF L N (d, id, ep, sq) en = if en ≤ c + 1 then (N ++ [((d, id, ep, sq), en - 3)], true) else (N ++ [((d, id, ep, sq), c + 1)], false) := by simp [goesF, hin, hc]
          have h1 : en ≤ c + 1 := by omega
          rw [h0, if_pos h1]
        rw [hg]
        exact ⟨rfl, hx, hcl, v', h1, by simpa using h2⟩
end Go.Proofs.Ytaibifaeljnchaa
