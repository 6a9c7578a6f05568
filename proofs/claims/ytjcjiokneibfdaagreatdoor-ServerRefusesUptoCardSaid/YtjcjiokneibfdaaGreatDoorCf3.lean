/- A writer writes numbers, a truth, how many. -/
import Derived.Test.YtjcjiokneibfdaaGreatDoorCf2
namespace Go.Proofs.YtjcjiokneibfdaaGreatDoor
set_option linter.unusedVariables false
set_option linter.unusedSimpArgs false
open Go.RowKit

def ptrs (b : Nat) (os : List Nat) : Array Value := ⟨os.map fun o => .pointer (some ⟨b, o, none⟩)⟩
set_option maxRecDepth 20000 in
set_option maxHeartbeats 8000000 in
theorem cfNums {fb N b rb k : Nat} {bad : Bool} {cs : Array Value} {os : List Nat} (w : World) (h : Form w fb N bad) (hr : CRec w b cs) (hi : ∀ o ∈ os, ∃ i, cs[o]? = some (.int .i64 i)) (hrow : CRec w rb (ptrs b os)) (hk : k = os.length) (hN : N + 10 * k ≤ 60000000) :
    Calls Tryz.prog 107 #[.pointer (some ⟨fb, 0, none⟩), .slice (some ⟨rb, 0, none⟩) k k] w (Wrote fb (N + 10 * k) bad w) := by
  have HK := Lib.hid hk
  clear hk
  go_enter Tryz.func107, Tryz.ntmps107
  go_upto_region 1 with (first | go_skip | go_guarded)
  go_loopw [8] (fun ki wr => ∃ t : Nat, t ≤ k ∧ ki = .int .i64 t ∧ (∃ bad', Form wr fb (N + 10 * t) bad' ∧ (bad = true → bad' = true)) ∧ Ext (FX fb w) w wr) (fun ki _ => k - (intOf ki).toNat)
  case atStart => exact ⟨0, Nat.zero_le _, rfl, ⟨bad, h, fun h => h⟩, Ext.refl _ _⟩
  case round =>
    obtain ⟨t, ht, rfl, ⟨bad', hf, hb⟩, hx⟩ := hrel
    by_cases hlt : t < k
    · obtain ⟨o, ho⟩ : ∃ o, os[t]? = some o := ⟨_, List.getElem?_eq_getElem (by have := HK.out; omega)⟩
      obtain ⟨i, hoi⟩ := hi o (List.mem_of_getElem? ho)
      have hc : wr.cell? ⟨rb, t, none⟩ = some (.pointer (some ⟨b, o, none⟩)) := by
        rw [(hrow.keep hx).cell]; simp [ptrs, ho]
      have hk0 : (0 : Int) ≤ (t : Int) := by omega
      have hk1 : (t : Int) < (k : Int) := by omega
      have hk2 : (t : Int) + 1 ≤ 60000000 := by omega
      have hcall := cfNum wr hf (hr.keep hx) hoi (by omega)
      have HT := Lib.hid hlt
      clear hlt ht hN
      go_wp2_with (first | go_skip | go_guarded | (go_at_call 177; (with_reducible refine hcall.mono ?_); rintro e w2 ⟨rfl, hx2, bad2, hf2, hb2⟩))
      go_roundw
      case rel => exact ⟨t + 1, HT.out, by go_num, ⟨bad2, hf2.mono (by omega), fun e => hb2 (hb e)⟩, hx.fx hx2 (fun b e => e)⟩
      case measure => have := HT.out; simp [intOf]; omega
    · have hnl : ¬ ((t : Int) < (k : Int)) := by omega
      have hf := hf.mono (show N + 10 * t ≤ N + 10 * k by omega)
      go_wp2_with (first | go_skip | go_guarded)
      exact bodyPost_ret (results_none rfl _ _ _) rfl ⟨rfl, hx, bad', hf, hb⟩
set_option maxRecDepth 20000 in
set_option maxHeartbeats 8000000 in
theorem cfFlag {fb N b o : Nat} {bad q : Bool} {cs : Array Value} (w : World) (h : Form w fb N bad) (hr : CRec w b cs) (hi : cs[o]? = some (.bool q)) (hN : N + 10 ≤ 60000000) :
    Calls Tryz.prog 180 #[.pointer (some ⟨fb, 0, none⟩), .pointer (some ⟨b, o, none⟩)] w (Wrote fb (N + 10) bad w) := by
  have ci : w.cell? ⟨b, o, none⟩ = some (.bool q) := by rw [hr.cell]; exact hi
  have c0 := (Ext.auto : Ext Nothing w (w.alloc (.cells #[.int .i64 0] 3))).c0 ci
  go_enter Tryz.func180, Tryz.ntmps180
  cases q with
  | true =>
    go_upto_region 3 with (first | go_skip | go_guarded)
    have hx1 : Ext Nothing w (w.alloc (.cells #[.int .i64 1] 3)) := Ext.auto
    have hr1 := hr.e0 hx1
    have hn1 := CRec.new w 3 #[.int .i64 1] (by decide) (by decide)
    have hcall := cfNum (o := 0) (i := 1) _ (h.e0 hx1) hn1 rfl (by omega)
    go_upto_region 4 with (first | go_skip | go_guarded | (go_at_call 177; (with_reducible refine hcall.mono ?_); rintro e w2 ⟨rfl, hx2, bad2, hf2, hb2⟩))
    have hr2 := hr1.keep hx2
    have hn2 := hn1.keep hx2
    have cn : w2.cell? ⟨w.heap.size, 0, none⟩ = some (.int .i64 1) := by rw [hn2.cell]; rfl
    have hxa := (hx1.mono (fun _ _ e => e.elim) : Ext (FX fb w) w _).fx hx2 (fun b e => e)
    obtain ⟨v2, n2, xs2, f2⟩ := id hf2
    have cb : w2.cell? ⟨fb, 2, none⟩ = some (.bool bad2) := by rw [f2.blk.cell]; rfl
    have fr2 := f2.blk.frozen 2
    obtain ⟨hf3, hx3⟩ := Form.flag hf2 bad2
    have hr3 := hr2.keep hx3
    have hn3 := hn2.keep hx3
    have cn3 : (w2.setCell ⟨fb, 2, none⟩ (.bool bad2)).cell? ⟨w.heap.size, 0, none⟩ = some (.int .i64 1) := by rw [hn3.cell]; rfl
    have ci3 : (w2.setCell ⟨fb, 2, none⟩ (.bool bad2)).cell? ⟨b, o, none⟩ = some (.bool true) := by rw [hr3.cell]; exact hi
    have fr3 := hr3.frozen o
    have hx4 := hr3.same hi
    have hf4 := hf3.e0 hx4
    have hxb := (hxa.fx hx3 (fun b e => e)).t0 hx4
    have HB := Lib.hid hb2
    clear hb2 h hr hi f2 hf2 hf3
    cases bad2 with
    | true =>
      go_wp2_with (first | go_skip | go_guarded)
      exact bodyPost_ret (results_none rfl _ _ _) rfl ⟨rfl, hxb, _, hf4, fun _ => rfl⟩
    | false =>
      go_wp2_with (first | go_skip | go_guarded)
      exact bodyPost_ret (results_none rfl _ _ _) rfl ⟨rfl, hxb, _, hf4, HB.out⟩
  | false =>
    go_upto_region 3 with (first | go_skip | go_guarded)
    have hx1 : Ext Nothing w (w.alloc (.cells #[.int .i64 0] 3)) := Ext.auto
    have hr1 := hr.e0 hx1
    have hn1 := CRec.new w 3 #[.int .i64 0] (by decide) (by decide)
    have hcall := cfNum (o := 0) (i := 0) _ (h.e0 hx1) hn1 rfl (by omega)
    go_upto_region 4 with (first | go_skip | go_guarded | (go_at_call 177; (with_reducible refine hcall.mono ?_); rintro e w2 ⟨rfl, hx2, bad2, hf2, hb2⟩))
    have hr2 := hr1.keep hx2
    have hn2 := hn1.keep hx2
    have cn : w2.cell? ⟨w.heap.size, 0, none⟩ = some (.int .i64 0) := by rw [hn2.cell]; rfl
    have hxa := (hx1.mono (fun _ _ e => e.elim) : Ext (FX fb w) w _).fx hx2 (fun b e => e)
    obtain ⟨v2, n2, xs2, f2⟩ := id hf2
    have cb : w2.cell? ⟨fb, 2, none⟩ = some (.bool bad2) := by rw [f2.blk.cell]; rfl
    have fr2 := f2.blk.frozen 2
    obtain ⟨hf3, hx3⟩ := Form.flag hf2 bad2
    have hr3 := hr2.keep hx3
    have hn3 := hn2.keep hx3
    have cn3 : (w2.setCell ⟨fb, 2, none⟩ (.bool bad2)).cell? ⟨w.heap.size, 0, none⟩ = some (.int .i64 0) := by rw [hn3.cell]; rfl
    have ci3 : (w2.setCell ⟨fb, 2, none⟩ (.bool bad2)).cell? ⟨b, o, none⟩ = some (.bool false) := by rw [hr3.cell]; exact hi
    have fr3 := hr3.frozen o
    have hx4 := hr3.same hi
    have hf4 := hf3.e0 hx4
    have hxb := (hxa.fx hx3 (fun b e => e)).t0 hx4
    have HB := Lib.hid hb2
    clear hb2 h hr hi f2 hf2 hf3
    cases bad2 with
    | true =>
      go_wp2_with (first | go_skip | go_guarded)
      exact bodyPost_ret (results_none rfl _ _ _) rfl ⟨rfl, hxb, _, hf4, fun _ => rfl⟩
    | false =>
      go_wp2_with (first | go_skip | go_guarded)
      exact bodyPost_ret (results_none rfl _ _ _) rfl ⟨rfl, hxb, _, hf4, HB.out⟩
set_option maxRecDepth 20000 in
set_option maxHeartbeats 8000000 in
theorem cfMany {fb N : Nat} {bad : Bool} {n m : Int} (w : World) (h : Form w fb N bad) (hn0 : 0 ≤ n) (hN : N + 10 ≤ 60000000) :
    Calls Tryz.prog 182 #[.pointer (some ⟨fb, 0, none⟩), .int .i64 n, .int .i64 m] w (WroteN fb (N + 10) bad (m < n) w) := by
  go_enter Tryz.func182, Tryz.ntmps182
  have hx1 : Ext Nothing w (w.alloc (.cells #[.int .i64 n] 3)) := Ext.auto
  have hn1 := CRec.new w 3 #[.int .i64 n] (by decide) (by decide)
  have hcall := cfNum (o := 0) (i := n) _ (h.e0 hx1) hn1 rfl (by omega)
  go_upto_region 2 with (first | go_skip | go_guarded | (go_at_call 177; (with_reducible refine hcall.mono ?_); rintro e w2 ⟨rfl, hx2, bad2, hf2, hb2⟩))
  have hn2 := hn1.keep hx2
  have cn : w2.cell? ⟨w.heap.size, 0, none⟩ = some (.int .i64 n) := by rw [hn2.cell]; rfl
  have hxa := (hx1.mono (fun _ _ e => e.elim) : Ext (FX fb w) w _).fx hx2 (fun b e => e)
  obtain ⟨v2, n2, xs2, f2⟩ := id hf2
  have cb : w2.cell? ⟨fb, 2, none⟩ = some (.bool bad2) := by rw [f2.blk.cell]; rfl
  have fr2 := f2.blk.frozen 2
  obtain ⟨hf3, hx3⟩ := Form.flag hf2 true
  have hxb := hxa.fx hx3 (fun b e => e)
  have HB := Lib.hid hb2
  have hn9 : ¬ n < 0 := by omega
  clear hb2 h f2
  by_cases hm : m < n
  · go_wp2_with (first | go_skip | go_guarded)
    exact bodyPost_ret (results_tmp rfl _ _ _) rfl ⟨⟨_, rfl⟩, hxb, _, hf3, fun _ => rfl, fun _ => rfl⟩
  · go_wp2_with (first | go_skip | go_guarded)
    exact bodyPost_ret (results_tmp rfl _ _ _) rfl ⟨⟨_, rfl⟩, hxa, _, hf2, HB.out, fun e => by omega⟩
theorem cfNum' {fb N b o : Nat} {bad : Bool} {cs : Array Value} (w : World) (h : Form w fb N bad) (hr : CRec w b cs) (hi : ∃ i, cs[o]? = some (.int .i64 i)) (hN : N ≤ 60000000) :
    Calls Tryz.prog 177 #[.pointer (some ⟨fb, 0, none⟩), .pointer (some ⟨b, o, none⟩)] w (Wrote fb (N + 10) bad w) := by
  obtain ⟨i, hi⟩ := hi
  exact cfNum w h hr hi hN
theorem cfFlag' {fb N b o : Nat} {bad : Bool} {cs : Array Value} (w : World) (h : Form w fb N bad) (hr : CRec w b cs) (hi : ∃ q, cs[o]? = some (.bool q)) (hN : N + 10 ≤ 60000000) :
    Calls Tryz.prog 180 #[.pointer (some ⟨fb, 0, none⟩), .pointer (some ⟨b, o, none⟩)] w (Wrote fb (N + 10) bad w) := by
  obtain ⟨q, hi⟩ := hi
  exact cfFlag w h hr hi hN
end Go.Proofs.YtjcjiokneibfdaaGreatDoor
