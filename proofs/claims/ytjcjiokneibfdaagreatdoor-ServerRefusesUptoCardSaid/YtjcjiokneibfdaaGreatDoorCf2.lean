/- A writer writes a number. -/
import Derived.Test.YtjcjiokneibfdaaGreatDoorCf1
import Derived.Test.YtjcjiokneibfdaaGreatDoorKeep
import Derived.Deep.CutRange
namespace Go.Proofs.YtjcjiokneibfdaaGreatDoor
set_option linter.unusedVariables false
set_option linter.unusedSimpArgs false
open Go.RowKit
theorem wu64 (z : Int) : 0 ≤ IntKind.u64.wrap z ∧ IntKind.u64.wrap z < 18446744073709551616 := by simp [IntKind.wrap, IntKind.bits, IntKind.signed]; omega
theorem bx64 (z : Int) : 0 ≤ bits .xor .u64 IntKind.u64.max z ∧ bits .xor .u64 IntKind.u64.max z < 18446744073709551616 := wu64 _
theorem num_step {t : Nat} {z : Int} (ht : t ≤ 9) (hz : 128 ≤ z) (h : z * 128 ^ t < 18446744073709551616) : t + 1 ≤ 9 ∧ z / 128 * 128 ^ (t + 1) < 18446744073709551616 := by
  have hc : t = 0 ∨ t = 1 ∨ t = 2 ∨ t = 3 ∨ t = 4 ∨ t = 5 ∨ t = 6 ∨ t = 7 ∨ t = 8 ∨ t = 9 := by omega
  rcases hc with rfl | rfl | rfl | rfl | rfl | rfl | rfl | rfl | rfl | rfl <;> simp only [Int.reducePow, Nat.reduceAdd] at h ⊢ <;> omega
section
variable {P : Program} {ops : Array Oper} {rest : List Oper} {o : Oper} {a : Act} {w : World} {Q : Exit → Act → World → Prop}
theorem cBs (ty : TypeId) {x : Operand} (h0 : o.op = .buildSlice ty 1 #[(0, x)]) (h : wpList P ops Q (o :: rest) a w) : wpList P ops Q (o :: rest) a w := h
end

set_option maxRecDepth 20000 in
set_option maxHeartbeats 8000000 in
theorem cfNum {fb N b o : Nat} {bad : Bool} {i : Int} {cs : Array Value} (w : World) (h : Form w fb N bad) (hr : CRec w b cs) (hi : cs[o]? = some (.int .i64 i)) (hN : N ≤ 60000000) :
    Calls Tryz.prog 177 #[.pointer (some ⟨fb, 0, none⟩), .pointer (some ⟨b, o, none⟩)] w (Wrote fb (N + 10) bad w) := by
  obtain ⟨v, n, xs, f⟩ := h
  have c1 : w.cell? ⟨fb, 1, none⟩ = some (.bool false) := by rw [f.blk.cell]; rfl
  have ci : w.cell? ⟨b, o, none⟩ = some (.int .i64 i) := by rw [hr.cell]; exact hi
  have c2 : w.cell? ⟨fb, 2, none⟩ = some (.bool bad) := by rw [f.blk.cell]; rfl
  have fr2 : w.frozen? ⟨fb, 2, none⟩ = false := f.blk.frozen 2
  go_enter Tryz.func177, Tryz.ntmps177
  by_cases h1 : i < -1099511627776
  · obtain ⟨hf1, hf2⟩ := (Form.flag ⟨v, n, xs, f⟩ true)
    clear f hr hi
    go_wp2_with (first | go_skip | go_guarded)
    exact bodyPost_ret (results_none rfl _ _ _) rfl ⟨rfl, hf2, true, hf1.mono (by omega), fun _ => rfl⟩
  · by_cases h2 : 1099511627776 < i
    · obtain ⟨hf1, hf2⟩ := (Form.flag ⟨v, n, xs, f⟩ true)
      clear f hr hi
      go_wp2_with (first | go_skip | go_guarded)
      exact bodyPost_ret (results_none rfl _ _ _) rfl ⟨rfl, hf2, true, hf1.mono (by omega), fun _ => rfl⟩
    · go_upto_region 4 with (first | go_skip | go_guarded)
      go_cut [4] from 26 to 37 (fun e wx => (∃ z : Int, e = .int .u64 z ∧ 0 ≤ z ∧ z < 18446744073709551616) ∧ wx = w)
      case first =>
        by_cases h3 : i < 0
        · go_wp2_with (first | go_skip | go_guarded)
          go_meet
          exact ⟨⟨_, rfl, wu64 _⟩, rfl⟩
        · go_wp2_with (first | go_skip | go_guarded)
          go_meet
          exact ⟨⟨_, rfl, by omega, by omega⟩, rfl⟩
      case rest =>
        obtain ⟨⟨z, rfl, hz0, hz1⟩, rfl⟩ := hcut
        obtain ⟨w, rfl⟩ : ∃ W : World, W = wc := ⟨_, rfl⟩
        go_upto_if 34 with (first | go_skip | go_guarded)
        generalize decide (i < 0) = q
        go_cut [4] from 35 to 37 (fun e wx => (∃ z : Int, e = .int .u64 z ∧ 0 ≤ z ∧ z < 18446744073709551616) ∧ wx = w)
        case first =>
          cases q
          · go_wp2_with (first | go_skip | go_guarded)
            go_meet
            exact ⟨⟨_, rfl, hz0, hz1⟩, rfl⟩
          · go_wp2_with (first | go_skip | go_guarded)
            go_meet
            exact ⟨⟨_, rfl, bx64 _⟩, rfl⟩
        case rest =>
          obtain ⟨⟨z, rfl, hz0, hz1⟩, rfl⟩ := hcut
          obtain ⟨w, rfl⟩ : ∃ W : World, W = wc := ⟨_, rfl⟩
          go_upto_region 7 with (first | go_skip | go_guarded)
          go_loopw [4] (fun ki wr => ∃ (t : Nat) (z : Int), t ≤ 9 ∧ ki = .int .u64 z ∧ 0 ≤ z ∧ z < 18446744073709551616 ∧ z * 128 ^ t < 18446744073709551616 ∧ Form wr fb (N + t) bad ∧ Ext (FX fb w) w wr) (fun ki _ => (intOf ki).toNat)
          case atStart => exact ⟨0, z, by omega, rfl, hz0, hz1, by omega, ⟨v, n, xs, f⟩, Ext.refl _ _⟩
          case round =>
            obtain ⟨t, z, ht, rfl, hz0, hz1, hzt, ⟨v1, n1, xs1, f1⟩, hxr⟩ := hrel
            have HN := Lib.hid (show n1 < 67108864 by have := f1.len; omega)
            have cr : wr.cell? ⟨fb, 0, none⟩ = some v1 := by rw [f1.blk.cell]; rfl
            by_cases hz : 128 ≤ z
            · go_upto_region 9 with (first | go_skip | go_guarded)
              go_wp2_with (first | go_skip | go_guarded | (at_builtin; refine wpList_app1 rfl _ _ 69 rfl fb SRu8 v1 n1 xs1 rfl (own_ext f1.own (Ext.auto : Ext Nothing wr _) (fun _ _ e => e)) wr.heap.size 1 _ rfl (Blk.new _ _ _) rfl rfl (by have := HN.out; omega) (by have := f1.blk.lt; simp; omega) ?_; intro A2 k2 w2 ho2 hg2; obtain ⟨hb2, hf2, hx2⟩ := f1.app ho2 hg2 Ext.auto; have hc2 : w2.cell? ⟨fb, 0, none⟩ = some v1 := (by rw [hb2.cell]; rfl); have hr2 := hb2.frozen 0))
              go_roundw
              case rel =>
                obtain ⟨n1', n2'⟩ := num_step ht hz hzt
                exact ⟨t + 1, z / 128, n1', rfl, by omega, by omega, n2', hf2, hxr.trans hx2 (fun b hb e => e.back hxr hb)⟩
              case measure => simp only [intOf]; omega
            · go_upto_region 10 with (first | go_skip | go_guarded)
              go_wp2_with (first | go_skip | go_guarded | (at_builtin; refine wpList_app1 rfl _ _ 69 rfl fb SRu8 v1 n1 xs1 rfl (own_ext f1.own (Ext.auto : Ext Nothing wr _) (fun _ _ e => e)) wr.heap.size 1 _ rfl (Blk.new _ _ _) rfl rfl (by have := HN.out; omega) (by have := f1.blk.lt; simp; omega) ?_; intro A2 k2 w2 ho2 hg2; obtain ⟨hb2, hf2, hx2⟩ := f1.app ho2 hg2 Ext.auto; have hc2 : w2.cell? ⟨fb, 0, none⟩ = some v1 := (by rw [hb2.cell]; rfl); have hr2 := hb2.frozen 0))
              exact bodyPost_ret (results_none rfl _ _ _) rfl ⟨rfl, hxr.trans hx2 (fun b hb e => e.back hxr hb), bad, hf2.mono (by omega), fun h => h⟩
end Go.Proofs.YtjcjiokneibfdaaGreatDoor
