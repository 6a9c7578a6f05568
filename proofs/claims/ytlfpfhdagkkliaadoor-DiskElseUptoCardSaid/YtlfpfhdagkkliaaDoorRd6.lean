/- The document's disk: write, Append, Put. (printed by wip/gen/rdwrite.py) -/
import Derived.Test.YtlfpfhdagkkliaaDoorRd5
namespace Go.Proofs.YtlfpfhdagkkliaaDoor
set_option linter.unusedVariables false
set_option linter.unusedSimpArgs false
open Go.RowKit

namespace Dk
theorem write_arg {d : DiskD} {k : Nat} {s : Str} {data : List UInt8} (h : nameOk s = false) : d.write k s data = (d, 1) := by unfold DiskD.write; rw [if_pos h]
theorem write_left {d : DiskD} {k : Nat} {s : Str} {data : List UInt8} (h : nameOk s = true) (hl : d.left = 0) : d.write k s data = (d, 11) := by unfold DiskD.write; rw [if_neg (by rw [h]; simp), if_pos hl]
theorem write_full {d : DiskD} {k : Nat} {s : Str} {data : List UInt8} (h : nameOk s = true) (hl : d.left ≠ 0) (hf : full d k s data = true) : d.write k s data = (d, 2) := by unfold DiskD.write; rw [if_neg (by rw [h]; simp), if_neg hl, if_pos hf]
theorem write_did {d : DiskD} {k : Nat} {s : Str} {data : List UInt8} (h : nameOk s = true) (hl : d.left ≠ 0) (hf : full d k s data = false) : d.write k s data = (d.did ⟨k, s, [], data⟩, 0) := by unfold DiskD.write; rw [if_neg (by rw [h]; simp), if_neg hl, if_neg (by rw [hf]; simp)]
end Dk
set_option maxRecDepth 20000 in
set_option maxHeartbeats 16000000 in
theorem rWrite {Ok : Nat → Prop} {r : Nat} {d : Dk.DiskD} (k : Nat) (hk : k ≤ 1) (s : Dk.Str) (A : Option Addr) (m c : Nat) (data : List UInt8) (w : World) (h : RefIs w Ok r d) (hg : Dk.Good d) (hR : Dk.Ren d) (hdn : d.done.length < 67108864) (hs : s.length ≤ maxLen) (hl : Sl w 1 A m (data.map bCell)) (hm : m ≤ 33554432) :
    Calls Tryd.prog 49 #[.pointer (some ⟨r, 0, none⟩), .int .i64 (k : Int), strV s, .slice A m c] w fun e w' => e = .returned (.int .i64 (d.write k s data).2) ∧ RefIs w' (OkN w Ok) r (d.write k s data).1 ∧ Ext (RdB r w) w w' := by
  obtain ⟨fv, AD, nD, cD, zs, h⟩ := h
  have HH := Lib.hid h
  have hml : m = data.length := by simpa using hl.1
  have HML := Lib.hid hml
  clear hml
  have hlim := h.lim
  rcases (show k = 0 ∨ k = 1 by omega) with rfl | rfl
  · cases hnm : Dk.nameOk s with
    | false =>
      have HNM := Lib.hid hnm
      clear hnm
      go_enter Tryd.func49, Tryd.ntmps49
      go_upto_region 2 with (first | go_skip | go_guarded | (go_at_call 50; (with_reducible refine (rName s w hs).mono ?_); rintro e w1 ⟨rfl, hx1⟩; (rw [HNM.out])))
      have HW := Lib.hid (Dk.write_arg (k := 0) (data := data) (d := d) HNM.out)
      go_wp2_with (first | go_skip | go_guarded)
      go_ret
      rw [HW.out]
      exact ⟨rfl, ⟨_, _, _, _, _, (HH.out.keep0 hx1).mono (fun _ _ e => .inl e)⟩, hx1.mono (fun _ _ e => e.elim)⟩
    | true =>
      have HNM := Lib.hid hnm
      clear hnm
      go_enter Tryd.func49, Tryd.ntmps49
      go_upto_region 3 with (first | go_skip | go_guarded | (go_at_call 50; (with_reducible refine (rName s w hs).mono ?_); rintro e w1 ⟨rfl, hx1⟩; (rw [HNM.out])))
      have h1 := h.keep0 hx1
      have k2 : w1.cell? ⟨r, 2, none⟩ = some (.int .i64 d.left) := h1.blk.cell 2
      cases hlf : (d.left == 0) with
      | true =>
        have HW := Lib.hid (Dk.write_left (k := 0) (data := data) HNM.out (by simpa using hlf))
        go_wp2_with (first | go_skip | go_guarded)
        go_ret
        rw [HW.out]
        exact ⟨rfl, ⟨_, _, _, _, _, (HH.out.keep0 hx1).mono (fun _ _ e => .inl e)⟩, hx1.mono (fun _ _ e => e.elim)⟩
      | false =>
        have HLF := Lib.hid (show d.left ≠ 0 by simpa using hlf)
        go_upto_region 6 with (first | go_skip | go_guarded | (go_at_call 33; (with_reducible refine (rFiles w1 h1 hg hR hdn).mono ?_); rintro e w2 ⟨v2, rfl, ⟨A1, n1, c1, ys, rfl, hF, hys⟩, hx2⟩))
        clear k2 hlf
        have hyl : ys.length ≤ 64 := by have := hg.files.few; rw [← hys, List.length_map] at this; exact this
        have hn1e : n1 = d.files.length := by rw [hF.sl.len, ← hys, List.length_map]
        have HN1 := Lib.hid hn1e
        have hn1 : n1 < 67108864 := by have := hF.sl.len; omega
        clear hn1e
        have hx02 := hx1.tr hx2
        clear h1
        rcases find_y ys s with ⟨hi, hf⟩ | ⟨i, y0, hi, hyi, hf⟩
        · rw [hys] at hf
          have HI := Lib.hid hi
          have HF := Lib.hid hf
          clear hi hf
          go_upto_region 7 with (first | go_skip | go_guarded | (go_at_call 51; (with_reducible refine (rFind A1 n1 c1 ys s w2 hF hn1).mono ?_); rintro e w3 ⟨rfl, hx3⟩; (rw [HI.out])))
          have hx03 := hx02.tr hx3
          by_cases h64 : 64 ≤ n1
          · have g64 : (64 : Int) ≤ (n1 : Int) := by omega
            have hfull : Dk.full d 0 s data = true := by unfold Dk.full Dk.size; rw [HF.out]; simp only [Option.isNone_none, Option.isNone_some, Bool.true_and, Bool.false_and, Option.getD_none, Option.getD_some, List.length_nil]; simp; have := HN1.out; omega
            have HW := Lib.hid (Dk.write_full HNM.out HLF.out hfull)
            go_wp2_with (first | go_skip | go_guarded)
            go_ret
            rw [HW.out]
            exact ⟨rfl, ⟨_, _, _, _, _, (HH.out.keep0 hx03).mono (fun _ _ e => .inl e)⟩, hx03.mono (fun _ _ e => e.elim)⟩
          · have g64 : ¬ ((64 : Int) ≤ (n1 : Int)) := by omega
            by_cases hbig : 1048576 < m
            · have gbig : (1048576 : Int) < (m : Int) := by omega
              have hfull : Dk.full d 0 s data = true := by unfold Dk.full Dk.size; rw [HF.out]; simp only [Option.isNone_none, Option.isNone_some, Bool.true_and, Bool.false_and, Option.getD_none, Option.getD_some, List.length_nil]; simp; have := HML.out; omega
              have HW := Lib.hid (Dk.write_full HNM.out HLF.out hfull)
              go_wp2_with (first | go_skip | go_guarded)
              go_ret
              rw [HW.out]
              exact ⟨rfl, ⟨_, _, _, _, _, (HH.out.keep0 hx03).mono (fun _ _ e => .inl e)⟩, hx03.mono (fun _ _ e => e.elim)⟩
            · have gbig : ¬ ((1048576 : Int) < (m : Int)) := by omega
              have hfull : Dk.full d 0 s data = false := by unfold Dk.full Dk.size; rw [HF.out]; simp only [Option.isNone_none, Option.isNone_some, Bool.true_and, Bool.false_and, Option.getD_none, Option.getD_some, List.length_nil]; simp; have := HML.out; have := HN1.out; omega
              have HW := Lib.hid (Dk.write_did (k := 0) HNM.out HLF.out hfull)
              clear hfull
              have hl3 := hl.ext0 hx03
              have hz3 := hx03.size
              go_upto_region 14 with (first | go_skip | go_guarded | (at_builtin; refine wpList_appA rfl _ _ 29 rfl w3.heap.size SRByte (.slice none 0 0) 0 [] rfl (World.ownsRow_nil _ _ _ _) A m c _ rfl hl3 (one_bytes _) (by omega) (Nat.le_refl _) ?_; intro A5 c5 w5 hown5 hgr5; rw [Nat.zero_add] at hown5 ⊢))
              have hx5 : Ext Nothing w3 w5 := (Ext.refl _ _).grown hgr5 (fun g hg => by simp [Value.ownBlock] at hg)
              have hx05 := hx03.tr hx5
              have hb5 : BytesV w5 (OkN w Ok) (.slice A5 m c5) data := BytesV.own (base := w3.heap.size) (by rw [← flat_bytes]; exact hown5) (by simpa using hl.1) (fun q hq => .inr (by omega))
              have h5 := (HH.out.keep0 hx05).mono (Ok' := (OkN w Ok)) (fun _ _ e => .inl e)
              have hy5 : DidI w5 (OkN w Ok) (((⟨0, s, [], data⟩ : Dk.DidD), (([] : Dk.Str), Value.slice A5 m c5)) : DidC) := ⟨hb5, fun e => by simp at e⟩
              clear hl3 hgr5 hown5 hb5 hx5 hx03
              have hcall := rDid (((⟨0, s, [], data⟩ : Dk.DidD), (([] : Dk.Str), Value.slice A5 m c5)) : DidC) w5 h5 hy5 hdn
              dsimp only at hcall
              go_wp2_with (first | go_skip | go_guarded | (go_at_call 62; (refine hcall.mono ?_); rintro e w6 ⟨rfl, h6, hx6⟩))
              go_ret
              rw [HW.out]
              exact ⟨rfl, h6, (hx05.mono (fun _ _ e => e.elim) : Ext (RdB r w) w w5).trans hx6 (fun q hq e => RdB.back (hx05.mono (fun _ _ e => e.elim)) hq e)⟩
        · obtain ⟨⟨n2, d2⟩, v2⟩ := y0
          have hm2 := List.mem_of_getElem? hyi
          have hin : i < n1 := by rw [hF.sl.len]; exact (List.getElem?_eq_some_iff.1 hyi).1
          have hl2 : d2.length ≤ 1048576 := hg.files.size (n2, d2) (by rw [← hys]; exact List.mem_map_of_mem (f := fun y : FileC => y.1) hm2)
          obtain ⟨A3, n3, c3, hv3, hs3, _⟩ := hF.data _ hm2
          have hv3 : v2 = .slice A3 n3 c3 := hv3
          subst hv3
          have hn3 : n3 = d2.length := by have := hs3.1.1; simpa using this
          have HN3 := Lib.hid hn3
          have hn3l : n3 ≤ 1048576 := by omega
          clear hs3 hn3
          rw [hys] at hf
          have HI := Lib.hid hi
          have HF := Lib.hid hf
          clear hi hf
          obtain ⟨hji, q, off, hAe, hce⟩ := hF.sl.get (Ext.refl _ _) hin
          have hyi2 : ys[i] = ((n2, d2), .slice A3 n3 c3) := by have := List.getElem?_eq_getElem hji; rw [this] at hyi; exact Option.some.inj hyi
          rw [hyi2] at hce
          have q1 : w2.cell? ⟨q, off + i * 2 + 1, none⟩ = some (.slice A3 n3 c3) := hce 1 _ rfl
          subst hAe
          have hk0 : (0 : Int) ≤ (i : Int) := by omega
          have hk1 : (i : Int) < n1 := by omega
          clear hce hyi2 hyi hm2 hji
          go_upto_region 7 with (first | go_skip | go_guarded | (go_at_call 51; (with_reducible refine (rFind (some ⟨q, off, none⟩) n1 c1 ys s w2 hF hn1).mono ?_); rintro e w3 ⟨rfl, hx3⟩; (rw [HI.out])))
          have hx03 := hx02.tr hx3
          have q3 := hx3.c0 q1
          clear q1
          by_cases hbig : 1048576 < m + n3
          · have gbig : (1048576 : Int) < (m : Int) + (n3 : Int) := by omega
            have hfull : Dk.full d 0 s data = true := by unfold Dk.full Dk.size; rw [HF.out]; simp only [Option.isNone_none, Option.isNone_some, Bool.true_and, Bool.false_and, Option.getD_none, Option.getD_some, List.length_nil]; simp; have := HML.out; have := HN3.out; omega
            have HW := Lib.hid (Dk.write_full HNM.out HLF.out hfull)
            go_wp2_with (first | go_skip | go_guarded)
            go_ret
            rw [HW.out]
            exact ⟨rfl, ⟨_, _, _, _, _, (HH.out.keep0 hx03).mono (fun _ _ e => .inl e)⟩, hx03.mono (fun _ _ e => e.elim)⟩
          · have gbig : ¬ ((1048576 : Int) < (m : Int) + (n3 : Int)) := by omega
            have hfull : Dk.full d 0 s data = false := by unfold Dk.full Dk.size; rw [HF.out]; simp only [Option.isNone_none, Option.isNone_some, Bool.true_and, Bool.false_and, Option.getD_none, Option.getD_some, List.length_nil]; simp; have := HML.out; have := HN3.out; omega
            have HW := Lib.hid (Dk.write_did (k := 0) HNM.out HLF.out hfull)
            clear hfull
            have hl3 := hl.ext0 hx03
            have hz3 := hx03.size
            go_upto_region 14 with (first | go_skip | go_guarded | (at_builtin; refine wpList_appA rfl _ _ 29 rfl w3.heap.size SRByte (.slice none 0 0) 0 [] rfl (World.ownsRow_nil _ _ _ _) A m c _ rfl hl3 (one_bytes _) (by omega) (Nat.le_refl _) ?_; intro A5 c5 w5 hown5 hgr5; rw [Nat.zero_add] at hown5 ⊢))
            have hx5 : Ext Nothing w3 w5 := (Ext.refl _ _).grown hgr5 (fun g hg => by simp [Value.ownBlock] at hg)
            have hx05 := hx03.tr hx5
            have hb5 : BytesV w5 (OkN w Ok) (.slice A5 m c5) data := BytesV.own (base := w3.heap.size) (by rw [← flat_bytes]; exact hown5) (by simpa using hl.1) (fun q hq => .inr (by omega))
            have h5 := (HH.out.keep0 hx05).mono (Ok' := (OkN w Ok)) (fun _ _ e => .inl e)
            have hy5 : DidI w5 (OkN w Ok) (((⟨0, s, [], data⟩ : Dk.DidD), (([] : Dk.Str), Value.slice A5 m c5)) : DidC) := ⟨hb5, fun e => by simp at e⟩
            clear hl3 hgr5 hown5 hb5 hx5 hx03
            have hcall := rDid (((⟨0, s, [], data⟩ : Dk.DidD), (([] : Dk.Str), Value.slice A5 m c5)) : DidC) w5 h5 hy5 hdn
            dsimp only at hcall
            go_wp2_with (first | go_skip | go_guarded | (go_at_call 62; (refine hcall.mono ?_); rintro e w6 ⟨rfl, h6, hx6⟩))
            go_ret
            rw [HW.out]
            exact ⟨rfl, h6, (hx05.mono (fun _ _ e => e.elim) : Ext (RdB r w) w w5).trans hx6 (fun q hq e => RdB.back (hx05.mono (fun _ _ e => e.elim)) hq e)⟩
  · cases hnm : Dk.nameOk s with
    | false =>
      have HNM := Lib.hid hnm
      clear hnm
      go_enter Tryd.func49, Tryd.ntmps49
      go_upto_region 2 with (first | go_skip | go_guarded | (go_at_call 50; (with_reducible refine (rName s w hs).mono ?_); rintro e w1 ⟨rfl, hx1⟩; (rw [HNM.out])))
      have HW := Lib.hid (Dk.write_arg (k := 1) (data := data) (d := d) HNM.out)
      go_wp2_with (first | go_skip | go_guarded)
      go_ret
      rw [HW.out]
      exact ⟨rfl, ⟨_, _, _, _, _, (HH.out.keep0 hx1).mono (fun _ _ e => .inl e)⟩, hx1.mono (fun _ _ e => e.elim)⟩
    | true =>
      have HNM := Lib.hid hnm
      clear hnm
      go_enter Tryd.func49, Tryd.ntmps49
      go_upto_region 3 with (first | go_skip | go_guarded | (go_at_call 50; (with_reducible refine (rName s w hs).mono ?_); rintro e w1 ⟨rfl, hx1⟩; (rw [HNM.out])))
      have h1 := h.keep0 hx1
      have k2 : w1.cell? ⟨r, 2, none⟩ = some (.int .i64 d.left) := h1.blk.cell 2
      cases hlf : (d.left == 0) with
      | true =>
        have HW := Lib.hid (Dk.write_left (k := 1) (data := data) HNM.out (by simpa using hlf))
        go_wp2_with (first | go_skip | go_guarded)
        go_ret
        rw [HW.out]
        exact ⟨rfl, ⟨_, _, _, _, _, (HH.out.keep0 hx1).mono (fun _ _ e => .inl e)⟩, hx1.mono (fun _ _ e => e.elim)⟩
      | false =>
        have HLF := Lib.hid (show d.left ≠ 0 by simpa using hlf)
        go_upto_region 6 with (first | go_skip | go_guarded | (go_at_call 33; (with_reducible refine (rFiles w1 h1 hg hR hdn).mono ?_); rintro e w2 ⟨v2, rfl, ⟨A1, n1, c1, ys, rfl, hF, hys⟩, hx2⟩))
        clear k2 hlf
        have hyl : ys.length ≤ 64 := by have := hg.files.few; rw [← hys, List.length_map] at this; exact this
        have hn1e : n1 = d.files.length := by rw [hF.sl.len, ← hys, List.length_map]
        have HN1 := Lib.hid hn1e
        have hn1 : n1 < 67108864 := by have := hF.sl.len; omega
        clear hn1e
        have hx02 := hx1.tr hx2
        clear h1
        rcases find_y ys s with ⟨hi, hf⟩ | ⟨i, y0, hi, hyi, hf⟩
        · rw [hys] at hf
          have HI := Lib.hid hi
          have HF := Lib.hid hf
          clear hi hf
          go_upto_region 7 with (first | go_skip | go_guarded | (go_at_call 51; (with_reducible refine (rFind A1 n1 c1 ys s w2 hF hn1).mono ?_); rintro e w3 ⟨rfl, hx3⟩; (rw [HI.out])))
          have hx03 := hx02.tr hx3
          by_cases h64 : 64 ≤ n1
          · have g64 : (64 : Int) ≤ (n1 : Int) := by omega
            have hfull : Dk.full d 1 s data = true := by unfold Dk.full Dk.size; rw [HF.out]; simp only [Option.isNone_none, Option.isNone_some, Bool.true_and, Bool.false_and, Option.getD_none, Option.getD_some, List.length_nil]; simp; have := HN1.out; omega
            have HW := Lib.hid (Dk.write_full HNM.out HLF.out hfull)
            go_wp2_with (first | go_skip | go_guarded)
            go_ret
            rw [HW.out]
            exact ⟨rfl, ⟨_, _, _, _, _, (HH.out.keep0 hx03).mono (fun _ _ e => .inl e)⟩, hx03.mono (fun _ _ e => e.elim)⟩
          · have g64 : ¬ ((64 : Int) ≤ (n1 : Int)) := by omega
            by_cases hbig : 1048576 < m
            · have gbig : (1048576 : Int) < (m : Int) := by omega
              have hfull : Dk.full d 1 s data = true := by unfold Dk.full Dk.size; rw [HF.out]; simp only [Option.isNone_none, Option.isNone_some, Bool.true_and, Bool.false_and, Option.getD_none, Option.getD_some, List.length_nil]; simp; have := HML.out; omega
              have HW := Lib.hid (Dk.write_full HNM.out HLF.out hfull)
              go_wp2_with (first | go_skip | go_guarded)
              go_ret
              rw [HW.out]
              exact ⟨rfl, ⟨_, _, _, _, _, (HH.out.keep0 hx03).mono (fun _ _ e => .inl e)⟩, hx03.mono (fun _ _ e => e.elim)⟩
            · have gbig : ¬ ((1048576 : Int) < (m : Int)) := by omega
              have hfull : Dk.full d 1 s data = false := by unfold Dk.full Dk.size; rw [HF.out]; simp only [Option.isNone_none, Option.isNone_some, Bool.true_and, Bool.false_and, Option.getD_none, Option.getD_some, List.length_nil]; simp; have := HML.out; have := HN1.out; omega
              have HW := Lib.hid (Dk.write_did (k := 1) HNM.out HLF.out hfull)
              clear hfull
              have hl3 := hl.ext0 hx03
              have hz3 := hx03.size
              go_upto_region 14 with (first | go_skip | go_guarded | (at_builtin; refine wpList_appA rfl _ _ 29 rfl w3.heap.size SRByte (.slice none 0 0) 0 [] rfl (World.ownsRow_nil _ _ _ _) A m c _ rfl hl3 (one_bytes _) (by omega) (Nat.le_refl _) ?_; intro A5 c5 w5 hown5 hgr5; rw [Nat.zero_add] at hown5 ⊢))
              have hx5 : Ext Nothing w3 w5 := (Ext.refl _ _).grown hgr5 (fun g hg => by simp [Value.ownBlock] at hg)
              have hx05 := hx03.tr hx5
              have hb5 : BytesV w5 (OkN w Ok) (.slice A5 m c5) data := BytesV.own (base := w3.heap.size) (by rw [← flat_bytes]; exact hown5) (by simpa using hl.1) (fun q hq => .inr (by omega))
              have h5 := (HH.out.keep0 hx05).mono (Ok' := (OkN w Ok)) (fun _ _ e => .inl e)
              have hy5 : DidI w5 (OkN w Ok) (((⟨1, s, [], data⟩ : Dk.DidD), (([] : Dk.Str), Value.slice A5 m c5)) : DidC) := ⟨hb5, fun e => by simp at e⟩
              clear hl3 hgr5 hown5 hb5 hx5 hx03
              have hcall := rDid (((⟨1, s, [], data⟩ : Dk.DidD), (([] : Dk.Str), Value.slice A5 m c5)) : DidC) w5 h5 hy5 hdn
              dsimp only at hcall
              go_wp2_with (first | go_skip | go_guarded | (go_at_call 62; (refine hcall.mono ?_); rintro e w6 ⟨rfl, h6, hx6⟩))
              go_ret
              rw [HW.out]
              exact ⟨rfl, h6, (hx05.mono (fun _ _ e => e.elim) : Ext (RdB r w) w w5).trans hx6 (fun q hq e => RdB.back (hx05.mono (fun _ _ e => e.elim)) hq e)⟩
        · obtain ⟨⟨n2, d2⟩, v2⟩ := y0
          have hm2 := List.mem_of_getElem? hyi
          have hin : i < n1 := by rw [hF.sl.len]; exact (List.getElem?_eq_some_iff.1 hyi).1
          have hl2 : d2.length ≤ 1048576 := hg.files.size (n2, d2) (by rw [← hys]; exact List.mem_map_of_mem (f := fun y : FileC => y.1) hm2)
          obtain ⟨A3, n3, c3, hv3, hs3, _⟩ := hF.data _ hm2
          have hv3 : v2 = .slice A3 n3 c3 := hv3
          subst hv3
          have hn3 : n3 = d2.length := by have := hs3.1.1; simpa using this
          have HN3 := Lib.hid hn3
          have hn3l : n3 ≤ 1048576 := by omega
          clear hs3 hn3
          rw [hys] at hf
          have HI := Lib.hid hi
          have HF := Lib.hid hf
          clear hi hf
          obtain ⟨hji, q, off, hAe, hce⟩ := hF.sl.get (Ext.refl _ _) hin
          have hyi2 : ys[i] = ((n2, d2), .slice A3 n3 c3) := by have := List.getElem?_eq_getElem hji; rw [this] at hyi; exact Option.some.inj hyi
          rw [hyi2] at hce
          have q1 : w2.cell? ⟨q, off + i * 2 + 1, none⟩ = some (.slice A3 n3 c3) := hce 1 _ rfl
          subst hAe
          have hk0 : (0 : Int) ≤ (i : Int) := by omega
          have hk1 : (i : Int) < n1 := by omega
          clear hce hyi2 hyi hm2 hji
          go_upto_region 7 with (first | go_skip | go_guarded | (go_at_call 51; (with_reducible refine (rFind (some ⟨q, off, none⟩) n1 c1 ys s w2 hF hn1).mono ?_); rintro e w3 ⟨rfl, hx3⟩; (rw [HI.out])))
          have hx03 := hx02.tr hx3
          have q3 := hx3.c0 q1
          clear q1
          by_cases hbig : 1048576 < m
          · have gbig : (1048576 : Int) < (m : Int) := by omega
            have hfull : Dk.full d 1 s data = true := by unfold Dk.full Dk.size; rw [HF.out]; simp only [Option.isNone_none, Option.isNone_some, Bool.true_and, Bool.false_and, Option.getD_none, Option.getD_some, List.length_nil]; simp; have := HML.out; omega
            have HW := Lib.hid (Dk.write_full HNM.out HLF.out hfull)
            go_wp2_with (first | go_skip | go_guarded)
            go_ret
            rw [HW.out]
            exact ⟨rfl, ⟨_, _, _, _, _, (HH.out.keep0 hx03).mono (fun _ _ e => .inl e)⟩, hx03.mono (fun _ _ e => e.elim)⟩
          · have gbig : ¬ ((1048576 : Int) < (m : Int)) := by omega
            have hfull : Dk.full d 1 s data = false := by unfold Dk.full Dk.size; rw [HF.out]; simp only [Option.isNone_none, Option.isNone_some, Bool.true_and, Bool.false_and, Option.getD_none, Option.getD_some, List.length_nil]; simp; have := HML.out; omega
            have HW := Lib.hid (Dk.write_did (k := 1) HNM.out HLF.out hfull)
            clear hfull
            have hl3 := hl.ext0 hx03
            have hz3 := hx03.size
            go_upto_region 14 with (first | go_skip | go_guarded | (at_builtin; refine wpList_appA rfl _ _ 29 rfl w3.heap.size SRByte (.slice none 0 0) 0 [] rfl (World.ownsRow_nil _ _ _ _) A m c _ rfl hl3 (one_bytes _) (by omega) (Nat.le_refl _) ?_; intro A5 c5 w5 hown5 hgr5; rw [Nat.zero_add] at hown5 ⊢))
            have hx5 : Ext Nothing w3 w5 := (Ext.refl _ _).grown hgr5 (fun g hg => by simp [Value.ownBlock] at hg)
            have hx05 := hx03.tr hx5
            have hb5 : BytesV w5 (OkN w Ok) (.slice A5 m c5) data := BytesV.own (base := w3.heap.size) (by rw [← flat_bytes]; exact hown5) (by simpa using hl.1) (fun q hq => .inr (by omega))
            have h5 := (HH.out.keep0 hx05).mono (Ok' := (OkN w Ok)) (fun _ _ e => .inl e)
            have hy5 : DidI w5 (OkN w Ok) (((⟨1, s, [], data⟩ : Dk.DidD), (([] : Dk.Str), Value.slice A5 m c5)) : DidC) := ⟨hb5, fun e => by simp at e⟩
            clear hl3 hgr5 hown5 hb5 hx5 hx03
            have hcall := rDid (((⟨1, s, [], data⟩ : Dk.DidD), (([] : Dk.Str), Value.slice A5 m c5)) : DidC) w5 h5 hy5 hdn
            dsimp only at hcall
            go_wp2_with (first | go_skip | go_guarded | (go_at_call 62; (refine hcall.mono ?_); rintro e w6 ⟨rfl, h6, hx6⟩))
            go_ret
            rw [HW.out]
            exact ⟨rfl, h6, (hx05.mono (fun _ _ e => e.elim) : Ext (RdB r w) w w5).trans hx6 (fun q hq e => RdB.back (hx05.mono (fun _ _ e => e.elim)) hq e)⟩
set_option maxRecDepth 20000 in
theorem rAppend {Ok : Nat → Prop} {r : Nat} {d : Dk.DiskD} (s : Dk.Str) (A : Option Addr) (m c : Nat) (data : List UInt8) (w : World) (h : RefIs w Ok r d) (hg : Dk.Good d) (hR : Dk.Ren d) (hdn : d.done.length < 67108864) (hs : s.length ≤ maxLen) (hl : Sl w 1 A m (data.map bCell)) (hm : m ≤ 33554432) :
    Calls Tryd.prog 25 #[.pointer (some ⟨r, 0, none⟩), strV s, .slice A m c] w fun e w' => e = .returned (.int .i64 (d.write 0 s data).2) ∧ RefIs w' (OkN w Ok) r (d.write 0 s data).1 ∧ Ext (RdB r w) w w' := by
  have hcall := rWrite 0 (by omega) s A m c data w h hg hR hdn hs hl hm
  have hcall : Calls Tryd.prog 49 #[.pointer (some ⟨r, 0, none⟩), .int .i64 0, strV s, .slice A m c] w _ := hcall
  go_enter Tryd.func25, Tryd.ntmps25
  go_wp2_with (first | go_skip | go_guarded | (go_at_call 49; (refine hcall.mono ?_); rintro e w6 ⟨rfl, h6, hx6⟩))
  go_ret
  exact ⟨rfl, h6, hx6⟩
set_option maxRecDepth 20000 in
theorem rPut {Ok : Nat → Prop} {r : Nat} {d : Dk.DiskD} (s : Dk.Str) (A : Option Addr) (m c : Nat) (data : List UInt8) (w : World) (h : RefIs w Ok r d) (hg : Dk.Good d) (hR : Dk.Ren d) (hdn : d.done.length < 67108864) (hs : s.length ≤ maxLen) (hl : Sl w 1 A m (data.map bCell)) (hm : m ≤ 33554432) :
    Calls Tryd.prog 26 #[.pointer (some ⟨r, 0, none⟩), strV s, .slice A m c] w fun e w' => e = .returned (.int .i64 (d.write 1 s data).2) ∧ RefIs w' (OkN w Ok) r (d.write 1 s data).1 ∧ Ext (RdB r w) w w' := by
  have hcall := rWrite 1 (by omega) s A m c data w h hg hR hdn hs hl hm
  have hcall : Calls Tryd.prog 49 #[.pointer (some ⟨r, 0, none⟩), .int .i64 1, strV s, .slice A m c] w _ := hcall
  go_enter Tryd.func26, Tryd.ntmps26
  go_wp2_with (first | go_skip | go_guarded | (go_at_call 49; (refine hcall.mono ?_); rintro e w6 ⟨rfl, h6, hx6⟩))
  go_ret
  exact ⟨rfl, h6, hx6⟩
end Go.Proofs.YtlfpfhdagkkliaaDoor
