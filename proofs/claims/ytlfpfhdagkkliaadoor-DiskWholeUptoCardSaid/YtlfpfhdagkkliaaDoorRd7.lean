/- The document's disk: Read, move, Remove, Rename, List, Sync, Cut, New. (printed by wip/gen/rdread.py) -/
import Derived.Test.YtlfpfhdagkkliaaDoorRd6
import Derived.Test.YtlfpfhdagkkliaaDoorDkK
namespace Go.Proofs.YtlfpfhdagkkliaaDoor
set_option linter.unusedVariables false
set_option linter.unusedSimpArgs false
open Go.RowKit

namespace Dk
theorem move_arg {d : DiskD} {x : DidD} {b : Str} (h : (!nameOk x.name || !nameOk b) = true) : d.move x b = (d, 1) := by unfold DiskD.move; rw [if_pos h]
theorem move_left {d : DiskD} {x : DidD} {b : Str} (h : nameOk x.name = true) (hb : nameOk b = true) (hl : d.left = 0) : d.move x b = (d, 11) := by unfold DiskD.move; rw [if_neg (by rw [h, hb]; simp), if_pos hl]
theorem move_none {d : DiskD} {x : DidD} {b : Str} (h : nameOk x.name = true) (hb : nameOk b = true) (hl : d.left ≠ 0) (hf : find d.files x.name = none) : d.move x b = (d, 12) := by unfold DiskD.move; rw [if_neg (by rw [h, hb]; simp), if_neg hl, if_pos (by rw [hf]; rfl)]
theorem move_did {d : DiskD} {x : DidD} {b : Str} {v : List UInt8} (h : nameOk x.name = true) (hb : nameOk b = true) (hl : d.left ≠ 0) (hf : find d.files x.name = some v) : d.move x b = (d.did x, 0) := by unfold DiskD.move; rw [if_neg (by rw [h, hb]; simp), if_neg hl, if_neg (by rw [hf]; simp)]
theorem read_arg {d : DiskD} {s : Str} (h : nameOk s = false) : d.read s = ([], 1) := by unfold DiskD.read; rw [if_pos h]
theorem read_none {d : DiskD} {s : Str} (h : nameOk s = true) (hf : find d.files s = none) : d.read s = ([], 12) := by unfold DiskD.read; rw [if_neg (by rw [h]; simp), hf]
theorem read_some {d : DiskD} {s : Str} {v : List UInt8} (h : nameOk s = true) (hf : find d.files s = some v) : d.read s = (v, 0) := by unfold DiskD.read; rw [if_neg (by rw [h]; simp), hf]
end Dk
set_option maxRecDepth 20000 in
set_option maxHeartbeats 16000000 in
theorem rRead {Ok : Nat → Prop} {r : Nat} {d : Dk.DiskD} (s : Dk.Str) (w : World) (h : RefIs w Ok r d) (hg : Dk.Good d) (hR : Dk.Ren d) (hdn : d.done.length < 67108864) (hs : s.length ≤ maxLen) :
    Calls Tryd.prog 27 #[.pointer (some ⟨r, 0, none⟩), strV s] w fun e w' => ∃ v, e = .returned (.tuple #[v, .int .i64 (d.read s).2]) ∧ BytesV w' (fun g => w.heap.size ≤ g) v (d.read s).1 ∧ Ext Nothing w w' := by
  obtain ⟨fv, AD, nD, cD, zs, h⟩ := h
  have HH := Lib.hid h
  cases hnm : Dk.nameOk s with
  | false =>
    have HNM := Lib.hid hnm
    clear hnm
    go_enter Tryd.func27, Tryd.ntmps27
    go_wp2_with (first | go_skip | go_guarded | (go_at_call 50; (with_reducible refine (rName s w hs).mono ?_); rintro e w1 ⟨rfl, hx1⟩; (rw [HNM.out])))
    go_ret2
    rw [Dk.read_arg HNM.out]
    exact ⟨_, rfl, BytesV.nil _ _, hx1⟩
  | true =>
    have HNM := Lib.hid hnm
    clear hnm
    go_enter Tryd.func27, Tryd.ntmps27
    go_upto_region 3 with (first | go_skip | go_guarded | (go_at_call 50; (with_reducible refine (rName s w hs).mono ?_); rintro e w1 ⟨rfl, hx1⟩; (rw [HNM.out])))
    have h1 := h.keep0 hx1
    go_upto_region 4 with (first | go_skip | go_guarded | (go_at_call 33; (with_reducible refine (rFiles w1 h1 hg hR hdn).mono ?_); rintro e w2 ⟨v2, rfl, ⟨A1, n1, c1, ys, rfl, hF, hys⟩, hx2⟩))
    have hyl : ys.length ≤ 64 := by have := hg.files.few; rw [← hys, List.length_map] at this; exact this
    have hn1 : n1 < 67108864 := by have := hF.sl.len; omega
    have hx02 := hx1.tr hx2
    clear h1
    rcases find_y ys s with ⟨hi, hf⟩ | ⟨i, y0, hi, hyi, hf⟩
    · rw [hys] at hf
      have HI := Lib.hid hi
      have HF := Lib.hid hf
      clear hi hf
      go_wp2_with (first | go_skip | go_guarded | (go_at_call 51; (with_reducible refine (rFind A1 n1 c1 ys s w2 hF hn1).mono ?_); rintro e w3 ⟨rfl, hx3⟩; (rw [HI.out])))
      go_ret2
      rw [Dk.read_none HNM.out HF.out]
      exact ⟨_, rfl, BytesV.nil _ _, hx02.tr hx3⟩
    · obtain ⟨⟨n2, d2⟩, v2⟩ := y0
      have hm2 := List.mem_of_getElem? hyi
      have hin : i < n1 := by rw [hF.sl.len]; exact (List.getElem?_eq_some_iff.1 hyi).1
      have hl2 : d2.length ≤ 1048576 := hg.files.size (n2, d2) (by rw [← hys]; exact List.mem_map_of_mem (f := fun y : FileC => y.1) hm2)
      obtain ⟨A3, n3, c3, hv3, hs3, _⟩ := hF.data _ hm2
      have hv3 : v2 = .slice A3 n3 c3 := hv3
      subst hv3
      have hs3 : Sl w2 1 A3 n3 (d2.map bCell) := hs3.1
      have hn3 : n3 = d2.length := by have := hs3.1; simpa using this
      have HN3 := Lib.hid hn3
      have hn3l : n3 ≤ 1048576 := by omega
      clear hn3
      rw [hys] at hf
      have HI := Lib.hid hi
      have HF := Lib.hid hf
      clear hi hf
      obtain ⟨hji, q, off, hAe, hce⟩ := hF.sl.get (Ext.refl _ _) hin
      have hyi2 : ys[i] = ((n2, d2), .slice A3 n3 c3) := by have := List.getElem?_eq_getElem hji; rw [this] at hyi; exact Option.some.inj hyi
      rw [hyi2] at hce
      have q1 : w2.cell? ⟨q, off + i * 2 + 1, none⟩ = some (.slice A3 n3 c3) := hce 1 _ rfl
      subst hAe
      have hk0 : (0 : Int) ≤ (i : Int) := by omega
      have hk1 : (i : Int) < n1 := by omega
      clear hce hyi2 hyi hm2 hji
      go_upto_region 5 with (first | go_skip | go_guarded | (go_at_call 51; (with_reducible refine (rFind (some ⟨q, off, none⟩) n1 c1 ys s w2 hF hn1).mono ?_); rintro e w3 ⟨rfl, hx3⟩; (rw [HI.out])))
      have q3 := hx3.c0 q1
      have hx03 := hx02.tr hx3
      have hs33 := hs3.ext0 hx3
      have hz3 := hx03.size
      clear q1 hs3
      go_upto_region 9 with (first | go_skip | go_guarded | (at_builtin; refine wpList_appA rfl _ _ 29 rfl w3.heap.size SRByte (.slice none 0 0) 0 [] rfl (World.ownsRow_nil _ _ _ _) A3 n3 c3 _ rfl hs33 (one_bytes _) (by omega) (Nat.le_refl _) ?_; intro A5 c5 w5 hown5 hgr5; rw [Nat.zero_add] at hown5 ⊢))
      have hx5 : Ext Nothing w3 w5 := (Ext.refl _ _).grown hgr5 (fun g hg => by simp [Value.ownBlock] at hg)
      go_wp2_with (first | go_skip | go_guarded)
      go_ret2
      rw [Dk.read_some HNM.out HF.out]
      exact ⟨_, rfl, BytesV.own (base := w3.heap.size) (by rw [← flat_bytes]; exact hown5) HN3.out (fun q hq => by omega), hx03.tr hx5⟩
set_option maxRecDepth 20000 in
set_option maxHeartbeats 16000000 in
theorem rMove {Ok : Nat → Prop} {r : Nat} {d : Dk.DiskD} (x : Dk.DidD) (tt : Dk.Str) (w : World) (h : RefIs w Ok r d) (hg : Dk.Good d) (hR : Dk.Ren d) (hdn : d.done.length < 67108864) (hs : x.name.length ≤ maxLen) (ht : tt.length ≤ maxLen) (hxd : x.data = []) (hxt : x.kind = 3 → tt = x.to_) :
    Calls Tryd.prog 52 #[.pointer (some ⟨r, 0, none⟩), .agg #[.int .i64 (x.kind : Int), strV x.name, strV tt, .slice none 0 0]] w fun e w' => e = .returned (.int .i64 (d.move x tt).2) ∧ RefIs w' (OkN w Ok) r (d.move x tt).1 ∧ Ext (RdB r w) w w' := by
  obtain ⟨fv, AD, nD, cD, zs, h⟩ := h
  have HH := Lib.hid h
  go_enter Tryd.func52, Tryd.ntmps52
  go_upto_region 1 with (first | go_skip | go_guarded)
  have hx1 : Ext Nothing w (w.alloc (.cells #[.int .i64 (x.kind : Int), strV x.name, strV tt, .slice none 0 0] 85)) := Ext.auto
  have hB1 : Blk (w.alloc (.cells #[.int .i64 (x.kind : Int), strV x.name, strV tt, .slice none 0 0] 85)) w.heap.size 85 #[.int .i64 (x.kind : Int), strV x.name, strV tt, .slice none 0 0] := Blk.new _ _ _
  obtain ⟨V, hV⟩ : ∃ z, z = w.heap.size := ⟨_, rfl⟩
  have HV := Lib.hid hV
  rw [← hV] at hB1 ⊢
  clear hV
  generalize hW1 : w.alloc (.cells #[.int .i64 (x.kind : Int), strV x.name, strV tt, .slice none 0 0] 85) = w1 at hx1 hB1 ⊢
  clear hW1
  have g1 : w1.cell? ⟨V, 1, none⟩ = some (strV x.name) := hB1.cell 1
  have g2 : w1.cell? ⟨V, 2, none⟩ = some (strV tt) := hB1.cell 2
  cases hn1 : Dk.nameOk x.name with
  | false =>
    have HN1 := Lib.hid hn1
    clear hn1
    go_wp2_with (first | go_skip | go_guarded | (go_at_call 50; (with_reducible refine (rName x.name w1 hs).mono ?_); rintro e w2 ⟨rfl, hx2⟩; (rw [HN1.out])))
    go_ret
    rw [Dk.move_arg (by rw [HN1.out]; rfl)]
    exact ⟨rfl, ⟨_, _, _, _, _, (HH.out.keep0 (hx1.tr hx2)).mono (fun _ _ e => .inl e)⟩, (hx1.tr hx2).mono (fun _ _ e => e.elim)⟩
  | true =>
    have HN1 := Lib.hid hn1
    clear hn1
    cases hn2 : Dk.nameOk tt with
    | false =>
      have HN2 := Lib.hid hn2
      clear hn2
      go_wp2_with (first | go_skip | go_guarded | (go_at_call 50; (with_reducible refine (rName x.name w1 hs).mono ?_); rintro e w2 ⟨rfl, hx2⟩; have g22 := hx2.c0 g2; (rw [HN1.out])) | (go_at_call 50; (with_reducible refine (rName tt w2 ht).mono ?_); rintro e w3 ⟨rfl, hx3⟩; (rw [HN2.out])))
      go_ret
      rw [Dk.move_arg (by rw [HN1.out, HN2.out]; rfl)]
      exact ⟨rfl, ⟨_, _, _, _, _, (HH.out.keep0 ((hx1.tr hx2).tr hx3)).mono (fun _ _ e => .inl e)⟩, ((hx1.tr hx2).tr hx3).mono (fun _ _ e => e.elim)⟩
    | true =>
      have HN2 := Lib.hid hn2
      clear hn2
      go_upto_region 3 with (first | go_skip | go_guarded | (go_at_call 50; (with_reducible refine (rName x.name w1 hs).mono ?_); rintro e w2 ⟨rfl, hx2⟩; have g22 := hx2.c0 g2; (rw [HN1.out])) | (go_at_call 50; (with_reducible refine (rName tt w2 ht).mono ?_); rintro e w3 ⟨rfl, hx3⟩; (rw [HN2.out])))
      have hx13 := hx2.tr hx3
      have hx03 := hx1.tr hx13
      have h3 := h.keep0 hx03
      have hB3 := hB1.e0 hx13
      have k2 : w3.cell? ⟨r, 2, none⟩ = some (.int .i64 d.left) := h3.blk.cell 2
      have g3 : w3.cell? ⟨V, 1, none⟩ = some (strV x.name) := hB3.cell 1
      clear hx1 hx2 hx3 hx13 hB1 g1 g2 g22 h
      cases hlf : (d.left == 0) with
      | true =>
        have HLF := Lib.hid (show d.left = 0 by simpa using hlf)
        go_wp2_with (first | go_skip | go_guarded)
        go_ret
        rw [Dk.move_left HN1.out HN2.out HLF.out]
        exact ⟨rfl, ⟨_, _, _, _, _, (HH.out.keep0 hx03).mono (fun _ _ e => .inl e)⟩, hx03.mono (fun _ _ e => e.elim)⟩
      | false =>
        have HLF := Lib.hid (show d.left ≠ 0 by simpa using hlf)
        go_upto_region 5 with (first | go_skip | go_guarded)
        clear hlf k2
        have hd : Ext Nothing w3 w3.drew := (Ext.refl _ _).drew
        refine zS (S := fun W' => Ext Nothing w3 W') (by kernel_rfl) ?_
        generalize w3.drew = Wd at hd ⊢
        refine zT 0 (.pointer (some ⟨r, 0, none⟩)) rfl (by kernel_rfl) (by rfl) hd (fun _ _ _ h => h) (fun W' hS' => by go_simp) ?_
        refine zT 2 (.pointer (some ⟨V, 1, none⟩)) rfl (by kernel_rfl) (by rfl) hd (fun _ _ _ h => h) (fun W' hS' => by go_simp) ?_
        refine zT 3 (strV x.name) rfl (by kernel_rfl) (by rfl) hd (fun _ _ _ h => h) (fun W' hS' => by have q9 := hS'.cell g3 (fun e => e); go_simp) ?_
        (try simp only [Act.put, zA, zB, zC, zD, zE, zF])
        refine zO 1 (by kernel_rfl) ?_
        refine wpOp_call rfl (by rfl) ?_ ((rFiles Wd (h3.keep0 hd) hg hR hdn).mono ?_)
        · go_simp
        rintro e w4 ⟨v2, rfl, ⟨A1, n1, c1, ys, rfl, hF, hys⟩, hx4⟩
        have hx34 := hd.tr hx4
        refine ⟨_, rfl, hx34, ?_⟩
        (try simp only [Act.put, zA, zB, zC, zD, zE, zF])
        have hyl : ys.length ≤ 64 := by have := hg.files.few; rw [← hys, List.length_map] at this; exact this
        have hn1 : n1 < 67108864 := by have := hF.sl.len; omega
        refine zO 4 (by kernel_rfl) ?_
        refine wpOp_call rfl (by rfl) ?_ ((rFind A1 n1 c1 ys x.name w4 hF hn1).mono ?_)
        · go_simp
        rintro e w5 ⟨rfl, hx5⟩
        have hx35 := hx34.tr hx5
        have hx05 := hx03.tr hx35
        refine ⟨_, rfl, hx35, ?_⟩
        (try simp only [Act.put, zA, zB, zC, zD, zE, zF])
        rcases find_y ys x.name with ⟨hi, hf⟩ | ⟨i, y0, hi, hyi, hf⟩
        · rw [hys] at hf
          rw [hi]
          have HF := Lib.hid hf
          clear hf hi
          refine zO 5 (by kernel_rfl) ?_
          refine wpOp_val (v := .bool true) rfl (by rfl) (by go_simp) ⟨hx35, wpAnyH_done (by kernel_rfl) ?_ _⟩
          (try simp only [Act.put, zA, zB, zC, zD, zE, zF])
          go_wp2_with (first | go_skip | go_guarded)
          go_ret
          rw [Dk.move_none HN1.out HN2.out HLF.out HF.out]
          exact ⟨rfl, ⟨_, _, _, _, _, (HH.out.keep0 hx05).mono (fun _ _ e => .inl e)⟩, hx05.mono (fun _ _ e => e.elim)⟩
        · rw [hys] at hf
          rw [hi]
          have HF := Lib.hid hf
          clear hf hi
          have hk0 : ¬ ((i : Int) < 0) := by omega
          refine zO 5 (by kernel_rfl) ?_
          refine wpOp_val (v := .bool false) rfl (by rfl) (by go_simp) ⟨hx35, wpAnyH_done (by kernel_rfl) ?_ _⟩
          (try simp only [Act.put, zA, zB, zC, zD, zE, zF])
          have hB5 := hB3.e0 hx35
          have h5 := (HH.out.keep0 hx05).mono (Ok' := (OkN w Ok)) (fun _ _ e => .inl e)
          have hy5 : DidI w5 (OkN w Ok) (x, (tt, .slice none 0 0)) := ⟨by show BytesV _ _ _ x.data; rw [hxd]; exact BytesV.nil _ _, hxt⟩
          have hcall := rDid (x, (tt, .slice none 0 0)) w5 h5 hy5 hdn
          dsimp only at hcall
          clear h5 hy5 h3 hF hys hyl g3 hB3
          go_wp2_with (first | go_skip | go_guarded | ((with_reducible refine dW ?_); refine wpList_load_blk rfl 85 _ rfl STDid V rfl #[.int .i64 (x.kind : Int), strV x.name, strV tt, .slice none 0 0] hB5 rfl ?_) | (go_at_call 62; (refine hcall.mono ?_); rintro e w6 ⟨rfl, h6, hx6⟩))
          go_ret
          rw [Dk.move_did HN1.out HN2.out HLF.out HF.out]
          exact ⟨rfl, h6, (hx05.mono (fun _ _ e => e.elim) : Ext (RdB r w) w w5).trans hx6 (fun q hq e => RdB.back (hx05.mono (fun _ _ e => e.elim)) hq e)⟩
set_option maxRecDepth 20000 in
set_option maxHeartbeats 16000000 in
theorem rRemove {Ok : Nat → Prop} {r : Nat} {d : Dk.DiskD} (s : Dk.Str) (w : World) (h : RefIs w Ok r d) (hg : Dk.Good d) (hR : Dk.Ren d) (hdn : d.done.length < 67108864) (hs : s.length ≤ maxLen) :
    Calls Tryd.prog 28 #[.pointer (some ⟨r, 0, none⟩), strV s] w fun e w' => e = .returned (.int .i64 (d.remove s).2) ∧ RefIs w' (OkN w Ok) r (d.remove s).1 ∧ Ext (RdB r w) w w' := by
  have hcall := rMove ⟨2, s, [], []⟩ s w h hg hR hdn hs hs rfl (by simp)
  go_enter Tryd.func28, Tryd.ntmps28
  go_wp2_with (first | go_skip | go_guarded | (go_at_call 52; (refine hcall.mono ?_); rintro e w6 ⟨rfl, h6, hx6⟩))
  go_ret
  exact ⟨rfl, h6, hx6⟩
set_option maxRecDepth 20000 in
set_option maxHeartbeats 16000000 in
theorem rRename {Ok : Nat → Prop} {r : Nat} {d : Dk.DiskD} (s t : Dk.Str) (w : World) (h : RefIs w Ok r d) (hg : Dk.Good d) (hR : Dk.Ren d) (hdn : d.done.length < 67108864) (hs : s.length ≤ maxLen) (ht : t.length ≤ maxLen) :
    Calls Tryd.prog 29 #[.pointer (some ⟨r, 0, none⟩), strV s, strV t] w fun e w' => e = .returned (.int .i64 (d.rename s t).2) ∧ RefIs w' (OkN w Ok) r (d.rename s t).1 ∧ Ext (RdB r w) w w' := by
  have hcall := rMove ⟨3, s, t, []⟩ t w h hg hR hdn hs ht rfl (by simp)
  go_enter Tryd.func29, Tryd.ntmps29
  go_wp2_with (first | go_skip | go_guarded | (go_at_call 52; (refine hcall.mono ?_); rintro e w6 ⟨rfl, h6, hx6⟩))
  go_ret
  exact ⟨rfl, h6, hx6⟩
set_option maxRecDepth 20000 in
set_option maxHeartbeats 16000000 in
theorem rList {Ok : Nat → Prop} {r : Nat} {d : Dk.DiskD} (w : World) (h : RefIs w Ok r d) (hg : Dk.Good d) (hR : Dk.Ren d) (hdn : d.done.length < 67108864) :
    Calls Tryd.prog 35 #[.pointer (some ⟨r, 0, none⟩)] w fun e w' => ∃ v, e = .returned v ∧ w'.ownsRow w.heap.size 9 1 v d.list.length (d.list.map strV) ∧ Ext Nothing w w' := by
  obtain ⟨fv, AD, nD, cD, zs, h⟩ := h
  have HH := Lib.hid h
  go_enter Tryd.func35, Tryd.ntmps35
  go_upto_region 3 with (first | go_skip | go_guarded | (go_at_call 33; (with_reducible refine (rFiles w h hg hR hdn).mono ?_); rintro e w2 ⟨v2, rfl, ⟨A1, n1, c1, ys, rfl, hF, hys⟩, hx2⟩))
  have hyl : ys.length ≤ 64 := by have := hg.files.few; rw [← hys, List.length_map] at this; exact this
  have hn1 : n1 < 67108864 := by have := hF.sl.len; omega
  have HDL := Lib.hid (show d.list = ys.map (fun y : FileC => y.1.1) by unfold Dk.DiskD.list; rw [← hys, List.map_map]; rfl)
  have HNY := Lib.hid hF.sl.len
  have hl := hF.sl
  clear h hys
  go_upto_region 4 with (first | go_skip | go_guarded)
  go_loopw [3, 5] (fun sv ki wr => ∃ t : Nat, t ≤ n1 ∧ ki = .int .i64 t ∧ ∃ A' c', sv = .slice A' t c' ∧ wr.ownsRow w2.heap.size 9 1 (.slice A' t c') t ((ys.take t).map (fun y : FileC => strV y.1.1)) ∧ Ext Nothing w2 wr) (fun _ ki _ => n1 - (intOf ki).toNat)
  case atStart => exact ⟨0, Nat.zero_le _, rfl, none, 0, rfl, World.ownsRow_nil _ _ _ _, Ext.refl _ _⟩
  case round =>
    obtain ⟨t, ht, rfl, A8, c8, rfl, hown, hx⟩ := hrel
    by_cases hlt : t < n1
    · obtain ⟨hjn, q, off, hAe, hce⟩ := hl.get hx hlt
      have HTK := Lib.hid (show (ys.take (t + 1)).map (fun y : FileC => strV y.1.1) = (ys.take t).map (fun y : FileC => strV y.1.1) ++ [strV ys[t].1.1] by rw [List.take_add_one, List.getElem?_eq_getElem hjn, List.map_append]; rfl)
      have c0 : wr.cell? ⟨q, off + t * 2, none⟩ = some (strV ys[t].1.1) := by have h9 := hce 0 _ rfl; simpa using h9
      generalize ys[t] = y at c0 HTK
      obtain ⟨⟨nm, dt⟩, v⟩ := y
      have c0 : wr.cell? ⟨q, off + t * 2, none⟩ = some (strV nm) := c0
      subst hAe
      have hk0 : (0 : Int) ≤ (t : Int) := by omega
      have hk1 : (t : Int) < n1 := by omega
      have HT := Lib.hid hlt
      have hx0 := hx2.tr hx
      have hbs := hx.size
      have ha : Ext Nothing wr (wr.alloc (.cells #[strV nm] 9)) := Ext.auto
      clear hce hlt
      go_wp2_with (first | go_skip | go_guarded | ((with_reducible refine dW ?_); refine wpList_slice1 rfl 34 _ rfl SStr #[strV nm] rfl rfl ?_) | (at_builtin; refine wpList_app1 rfl _ _ 34 rfl w2.heap.size SStr (.slice A8 t c8) t _ rfl (own_ext hown ha (fun g hg e => e)) wr.heap.size 1 #[strV nm] rfl (Blk.new _ _ _) rfl rfl (by omega) (Nat.le_trans hbs (by simp)) ?_; intro A9 c9 w9 hown9 hgr9))
      have hx9 : Ext Nothing w2 w9 := (hx.tr ha).grown hgr9 (fun g hg => .inl (hown.lt g hg).1)
      go_roundw
      case rel => exact ⟨t + 1, HT.out, by go_num, A9, c9, rfl, by rw [HTK.out]; exact hown9, hx9⟩
      case measure => have := HT.out; simp [intOf]; omega
    · have hnl : ¬ ((t : Int) < n1) := by omega
      have HE := Lib.hid (show ys.take t = ys from List.take_of_length_le (by have := HNY.out; omega))
      go_wp2_with (first | go_skip | go_guarded)
      go_ret
      refine ⟨_, rfl, ?_, hx2.tr hx⟩
      rw [HE.out] at hown
      rw [HDL.out, List.length_map, List.map_map, ← HNY.out]
      obtain rfl : t = n1 := by omega
      exact own_base hown hx2.size
set_option maxRecDepth 20000 in
set_option maxHeartbeats 16000000 in
theorem rSync {Ok : Nat → Prop} {r : Nat} {d : Dk.DiskD} (w : World) (h : RefIs w Ok r d) (hg : Dk.Good d) (hR : Dk.Ren d) (hdn : d.done.length < 67108864) :
    Calls Tryd.prog 30 #[.pointer (some ⟨r, 0, none⟩)] w fun e w' => e = .returned (.int .i64 d.sync.2) ∧ RefIs w' (OkN w Ok) r d.sync.1 ∧ Ext (RdB r w) w w' := by
  obtain ⟨fv, AD, nD, cD, zs, h⟩ := h
  have HH := Lib.hid h
  have k2 : w.cell? ⟨r, 2, none⟩ = some (.int .i64 d.left) := h.blk.cell 2
  go_enter Tryd.func30, Tryd.ntmps30
  cases hlf : (d.left == 0) with
  | true =>
    have HLF := Lib.hid (show d.left = 0 by simpa using hlf)
    go_wp2_with (first | go_skip | go_guarded)
    go_ret
    unfold Dk.DiskD.sync
    rw [if_pos HLF.out]
    exact ⟨rfl, ⟨_, _, _, _, _, HH.out.mono (fun _ _ e => .inl e)⟩, Ext.refl _ _⟩
  | false =>
    have HLF := Lib.hid (show d.left ≠ 0 by simpa using hlf)
    go_upto_region 3 with (first | go_skip | go_guarded)
    clear hlf k2
    go_upto_region 5 with (first | go_skip | go_guarded | (go_at_call 33; (with_reducible refine (rFiles w h hg hR hdn).mono ?_); rintro e w2 ⟨v2, rfl, ⟨A1, n1, c1, ys, rfl, hF, hys⟩, hx2⟩; have h2 := h.keep0 hx2; have k0 : w2.cell? ⟨r, 0, none⟩ = some fv := h2.blk.cell 0; have f0 : w2.frozen? ⟨r, 0, none⟩ = false := h2.blk.frozen 0; have k1 : w2.cell? ⟨r, 1, none⟩ = some (.slice AD nD cD) := h2.blk.cell 1; have f1 : w2.frozen? ⟨r, 1, none⟩ = false := h2.blk.frozen 1))
    have hx4 : Ext (fun q => q = r) w2 ((w2.setCell ⟨r, 0, none⟩ (.slice A1 n1 c1)).setCell ⟨r, 1, none⟩ (.slice none 0 0)) := (Ext.set1 w2 r 0 _).trans (Ext.set1 _ r 1 _) (fun _ _ e => e)
    have hB4 := (h2.blk.set_ 0 (.slice A1 n1 c1)).set_ 1 (.slice none 0 0)
    have hA4 : RefAt ((w2.setCell ⟨r, 0, none⟩ (.slice A1 n1 c1)).setCell ⟨r, 1, none⟩ (.slice none 0 0)) (OkN w Ok) r (.slice A1 n1 c1) none 0 0 [] { d with dur := d.files, done := [] } := RefAt.set h2.blk hx4 hB4 ⟨A1, n1, c1, ys, rfl, hF, hys⟩ (World.ownsRow_nil _ _ _ _) rfl rfl (by simp) HH.out.lim
    have hK4 : Ext (RdB r w) w ((w2.setCell ⟨r, 0, none⟩ (.slice A1 n1 c1)).setCell ⟨r, 1, none⟩ (.slice none 0 0)) := (hx2.mono (fun _ _ e => e.elim) : Ext (RdB r w) w w2).trans hx4 (fun q hq e => by have e : q = r := e; subst e; exact ⟨Nat.le_refl _, .inl ⟨_, HH.out.blk⟩⟩)
    clear hx4 hB4 h2 k0 f0 k1 f1 hF hys
    generalize ((w2.setCell ⟨r, 0, none⟩ (.slice A1 n1 c1)).setCell ⟨r, 1, none⟩ (.slice none 0 0)) = w4 at hA4 hK4 ⊢
    go_wp2_with (first | go_skip | go_guarded | (go_at_call 53; (with_reducible refine (rCounted w4 hA4).mono ?_); rintro e w5 ⟨rfl, hA5, hx5⟩))
    go_ret
    unfold Dk.DiskD.sync
    rw [if_neg HLF.out]
    exact ⟨rfl, ⟨_, _, _, _, _, hA5⟩, RdB.trans hK4 (hA4.rdb hx5)⟩
set_option maxRecDepth 20000 in
set_option maxHeartbeats 16000000 in
theorem rCut {Ok : Nat → Prop} {r : Nat} {d : Dk.DiskD} (k : Int) (w : World) (h : RefIs w Ok r d) :
    Calls Tryd.prog 31 #[.pointer (some ⟨r, 0, none⟩), .int .i64 k] w fun e w' => e = .returned (.int .i64 (d.cutAt k).2) ∧ RefIs w' Ok r (d.cutAt k).1 ∧ Ext (RdB r w) w w' := by
  obtain ⟨fv, AD, nD, cD, zs, h⟩ := h
  have HH := Lib.hid h
  have k2 : w.cell? ⟨r, 2, none⟩ = some (.int .i64 d.left) := h.blk.cell 2
  have f2 : w.frozen? ⟨r, 2, none⟩ = false := h.blk.frozen 2
  go_enter Tryd.func31, Tryd.ntmps31
  by_cases hbad : k < 0 ∨ 1099511627776 < k
  · have HC := Lib.hid (show d.cutAt k = (d, 1) by unfold Dk.DiskD.cutAt; rw [if_pos hbad])
    by_cases h0 : k < 0
    · go_wp2_with (first | go_skip | go_guarded)
      go_ret
      rw [HC.out]
      exact ⟨rfl, ⟨_, _, _, _, _, HH.out⟩, Ext.refl _ _⟩
    · have h9 : 1099511627776 < k := by omega
      go_wp2_with (first | go_skip | go_guarded)
      go_ret
      rw [HC.out]
      exact ⟨rfl, ⟨_, _, _, _, _, HH.out⟩, Ext.refl _ _⟩
  · have HC := Lib.hid (show d.cutAt k = ({ d with left := k }, 0) by unfold Dk.DiskD.cutAt; rw [if_neg hbad])
    have h0 : ¬ (k < 0) := by omega
    have h9 : ¬ (1099511627776 < k) := by omega
    have HB := Lib.hid hbad
    clear hbad
    go_wp2_with (first | go_skip | go_guarded)
    go_ret
    rw [HC.out]
    have hx : Ext (fun q => q = r) w (w.setCell ⟨r, 2, none⟩ (.int .i64 k)) := Ext.set1 _ _ _ _
    exact ⟨rfl, ⟨_, _, _, _, _, RefAt.set HH.out.blk hx (HH.out.blk.set_ 2 (.int .i64 k)) HH.out.dur HH.out.own HH.out.len HH.out.done HH.out.dids (by have := HB.out; constructor <;> simp only <;> omega)⟩, HH.out.rdb hx⟩
set_option maxRecDepth 20000 in
set_option maxHeartbeats 16000000 in
theorem rNew (w : World) (Ok : Nat → Prop) : Calls Tryd.prog 10 #[] w fun e w' => ∃ r, e = .returned (.pointer (some ⟨r, 0, none⟩)) ∧ RefIs w' Ok r Dk.new ∧ w.heap.size ≤ r ∧ Ext Nothing w w' := by
  go_enter Tryd.func10, Tryd.ntmps10
  go_wp2_with (first | go_skip | go_guarded)
  go_ret
  exact ⟨w.heap.size, rfl, ⟨.slice none 0 0, none, 0, 0, [], ⟨Blk.new _ _ _, FilesV.nil, World.ownsRow_nil _ _ _ _, rfl, rfl, by simp, by simp [Dk.new]⟩⟩, Nat.le_refl _, Ext.auto⟩
end Go.Proofs.YtlfpfhdagkkliaaDoor
