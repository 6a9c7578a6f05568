/- The disk's Put. (printed by wip/gen/dkmeth.py) -/
import Derived.Test.YtockcifkphfnlaaGreatDoorAk9
namespace Go.Proofs.YtockcifkphfnlaaGreatDoor
set_option linter.unusedVariables false
set_option linter.unusedSimpArgs false
open Go.RowKit
open Go.Maps Go.WideMaps
variable {M : Nat → Prop}

set_option maxRecDepth 20000 in
set_option maxHeartbeats 8000000 in
theorem dkPut {Ok : Nat → Prop} {b : Nat} {d : Dk.DiskD} (s : Dk.Str) (A : Option Addr) (n c : Nat) (data : List UInt8) (w : World) (h : DiskIs M w Ok b d) (hg : Dk.Good d) (hdn : d.done.length < 67108864) (hs : s.length ≤ maxLen) (hl : Sl w 1 A n (data.map bCell)) (hn : n ≤ 33554432) :
    Calls Tryz.prog 34 #[.pointer (some ⟨b, 0, none⟩), strV s, .slice A n c] w fun e w' => e = .returned (.int .i64 (d.write 1 s data).2) ∧ DiskIs M w' (OkN w Ok) b (d.write 1 s data).1 ∧ Ext (DkB M b w) w w' := by
  obtain ⟨bd, bn, AD, nD, cD, L, ys, h⟩ := h.out
  have hnD : nD < 67108864 := by rw [h.len, ← List.length_map (f := (·.1)), h.data]; exact hdn
  have HND := Lib.hid hnD
  clear hnD
  have hsz : ∀ x ∈ [s], x.length ≤ maxLen := fun x hx => by rw [List.mem_singleton.1 hx]; exact hs
  have ha0 : Ext Nothing w (w.alloc (.cells #[strV s] 9)) := Ext.auto
  have hq0 : Blk (w.alloc (.cells #[strV s] 9)) w.heap.size 9 #[strV s] := Blk.new _ _ _
  go_enter Tryz.func34, Tryz.ntmps34
  go_upto_region 1 with (first | go_skip | go_guarded)
  generalize hqq : w.heap.size = q at hq0 ⊢
  have HQ := Lib.hid hqq
  clear hqq
  have h0 := h.keep0 ha0
  have hl0 := hl.ext0 ha0
  generalize (w.alloc (.cells #[strV s] 9)) = w0 at ha0 hq0 h0 hl0 ⊢
  have q0 : w0.cell? ⟨q, 0, none⟩ = some (strV s) := hq0.cell 0
  have ha1 : Ext Nothing w0 (w0.alloc (.cells #[strV s] 9)) := Ext.auto
  have hnm : Sl (w0.alloc (.cells #[strV s] 9)) 1 (some ⟨w0.heap.size, 0, none⟩) 1 ([s].map fun x => [strV x]) := Sl.of_blk (t := 9) (cs := #[strV s]) _ (fun _ => rfl) (Blk.new _ _ _) rfl rfl
  go_upto_region 2 with (first | go_skip | go_guarded | (go_at_call 29; (with_reducible refine (dkAsk true (some ⟨w0.heap.size, 0, none⟩) 1 1 [s] _ (h0.keep0 ha1) hnm (by decide) hsz).mono ?_); rintro e w2 ⟨rfl, hx2⟩))
  have h2 := (h0.keep0 ha1).keep0 hx2
  have hl2 := (hl0.ext0 ha1).ext0 hx2
  have hq2 := (hq0.e0 ha1).e0 hx2
  have hxa := (ha0.tr ha1).tr hx2
  clear h0 hl0 hq0 ha0 ha1 hx2 q0 hnm
  cases hN : Dk.nameOk s with
  | false =>
    have HR := Lib.hid (show d.write 1 s data = (d, 1) by unfold Dk.DiskD.write; simp [hN])
    have e9 : askF [s] true d.left = 1 := by unfold askF; simp [hN]
    rw [e9]
    clear e9 hN
    go_wp2
    go_ret
    exact ⟨by rw [HR.out]; rfl, by rw [HR.out]; exact ⟨bd, bn, AD, nD, cD, L, ys, h2.mono (fun g _ hg => .inl hg)⟩, hxa.mono (fun _ _ e => e.elim)⟩
  | true =>
    cases hZ : decide (d.left = 0) with
    | true =>
      have HR := Lib.hid (show d.write 1 s data = (d, 11) by unfold Dk.DiskD.write; simp at hZ; simp [hN, hZ])
      have e9 : askF [s] true d.left = 11 := by unfold askF; simp at hZ; simp [hN, hZ]
      rw [e9]
      clear e9 hN hZ
      go_wp2
      go_ret
      exact ⟨by rw [HR.out]; rfl, by rw [HR.out]; exact ⟨bd, bn, AD, nD, cD, L, ys, h2.mono (fun g _ hg => .inl hg)⟩, hxa.mono (fun _ _ e => e.elim)⟩
    | false =>
      have e9 : askF [s] true d.left = 0 := by unfold askF; simp at hZ; simp [hN, hZ]
      rw [e9]
      have HN := Lib.hid hN
      have HZ := Lib.hid (of_decide_eq_false hZ)
      clear e9 hN hZ
      go_upto_region 4 with (first | go_skip | go_guarded)
      have hfo := hg.files
      have HNL := Lib.hid hl2.len
      have q0 : w2.cell? ⟨q, 0, none⟩ = some (strV s) := hq2.cell 0
      have HFU := Lib.hid (show (((Dk.find d.files s).isNone && decide (64 ≤ d.files.length)) || decide (1048576 < n)) = Dk.full d 1 s data by unfold Dk.full Dk.size; rw [HNL.out, if_neg (by decide), Nat.zero_add])
      generalize hfu : Dk.full d 1 s data = fu
      have HF2 := Lib.hid hfu
      rw [hfu] at HFU
      clear hfu
      cases fu with
      | true =>
        go_upto_region 5 with (first | go_skip | go_guarded | (go_at_call 48; (with_reducible refine (dkRoom s n w2 h2 hfo.asc hfo.few hs (by omega)).mono ?_); rintro e w3 ⟨rfl, hx3⟩; (rw [HFU.out])))
        have h3 := h2.keep0 hx3
        have hxb := hxa.tr hx3
        have HR := Lib.hid (show d.write 1 s data = (d, 2) by unfold Dk.DiskD.write; rw [if_neg (by rw [HN.out]; simp), if_neg HZ.out, HF2.out]; rfl)
        go_wp2
        go_ret
        exact ⟨by rw [HR.out]; rfl, by rw [HR.out]; exact ⟨bd, bn, AD, nD, cD, L, ys, h3.mono (fun g _ hg => .inl hg)⟩, hxb.mono (fun _ _ e => e.elim)⟩
      | false =>
        go_upto_region 6 with (first | go_skip | go_guarded | (go_at_call 48; (with_reducible refine (dkRoom s n w2 h2 hfo.asc hfo.few hs (by omega)).mono ?_); rintro e w3 ⟨rfl, hx3⟩; (rw [HFU.out])))
        have h3 := h2.keep0 hx3
        have hxb := hxa.tr hx3
        have hq3 := hq2.e0 hx3
        have hl3 := hl2.ext0 hx3
        clear h2 hq2 hl2 hxa hx3 q0
        have HR := Lib.hid (show d.write 1 s data = (d.did (⟨1, s, [], data⟩ : Dk.DidD), 0) by unfold Dk.DiskD.write; rw [if_neg (by rw [HN.out]; simp), if_neg HZ.out, HF2.out]; rfl)
        go_upto_region 7 with (first | go_skip | go_guarded | (go_at_call 30; (with_reducible refine (bytesClone A n c data w3 hl3 hn).mono ?_); rintro e w4 ⟨v4, rfl, hv4, hx4⟩; (obtain ⟨A4, n4, c4, rfl, hs4, hb4⟩ := hv4)))
        have ha5 : Ext Nothing w4 (w4.alloc (.cells #[.slice A4 n4 c4] 38)) := Ext.auto
        have hr5 : Blk (w4.alloc (.cells #[.slice A4 n4 c4] 38)) w4.heap.size 38 #[.slice A4 n4 c4] := Blk.new _ _ _
        have hxw4 := hxb.tr hx4
        have hzw := hxb.size
        have hv5 : BytesV (w4.alloc (.cells #[.slice A4 n4 c4] 38)) (OkN w Ok) (.slice A4 n4 c4) data := (show BytesV w4 (OkN w Ok) (.slice A4 n4 c4) data from ⟨A4, n4, c4, rfl, hs4, fun g h1 h2 => ⟨.inr (by have h9 : w3.heap.size ≤ g := (hb4 g h1 h2).1; omega), (hb4 g h1 h2).2⟩⟩).keep ha5 Off.none
        have h5 := ((h3.keep0 hx4).keep0 ha5).mono (Ok' := OkN w Ok) (fun g _ hg => .inl hg)
        have hq5 := (hq3.e0 hx4).e0 ha5
        have hxw5 := hxw4.tr ha5
        generalize w4.heap.size = r at hr5 ⊢
        generalize (w4.alloc (.cells #[.slice A4 n4 c4] 38)) = w5 at hr5 hv5 h5 hq5 hxw5 ⊢
        clear h3 hq3 hl3 hxb hx4 ha5 hxw4 hs4 hb4
        have hok : DeedOk (⟨1, s, [], data⟩ : Dk.DidD) := ⟨hs, by simp, by have h9 := HF2.out; unfold Dk.full Dk.size at h9; simp at h9; have := h9.2; show data.length ≤ _; omega⟩
        have hdv : DeedV w5 (OkN w Ok) (.func (.func 50) #[] #[.pointer (some ⟨r, 0, none⟩), .pointer (some ⟨q, 0, none⟩)]) (⟨1, s, [], data⟩ : Dk.DidD) := ⟨rfl, q, r, _, rfl, hq5, hr5, hv5⟩
        have hun : (1 : Int) = (Dk.units (⟨1, s, [], data⟩ : Dk.DidD) : Int) := by unfold Dk.units; rw [if_neg (fun e => by simp at e)]; rfl
        have HUN := Lib.hid hun
        clear hun
        go_wp2_with (first | go_skip | go_guarded | (go_at_call 49; (rw [HUN.out]); (with_reducible refine (dkDid w5 h5 hg hdv hok HND.out).mono ?_); rintro e w6 ⟨rfl, hD6, hx6⟩))
        go_ret
        have hz5 := hxw5.size
        refine ⟨by rw [HR.out]; rfl, by rw [HR.out]; exact hD6.mono (fun g _ hg => by rcases hg with hg | hg; exact hg; exact .inr (by omega)), ?_⟩
        exact DkB.trans (hxw5.mono (fun _ _ e => e.elim)) hx6
end Go.Proofs.YtockcifkphfnlaaGreatDoor
