/- The disk's Remove and Rename. (printed by wip/gen/dkmove.py) -/
import Derived.Test.YtlfpfhdagkkliaaDoorDk11
namespace Go.Proofs.YtlfpfhdagkkliaaDoor
set_option linter.unusedVariables false
set_option linter.unusedSimpArgs false
open Go.RowKit
open Go.Maps Go.WideMaps

set_option maxRecDepth 20000 in
set_option maxHeartbeats 8000000 in
theorem dkRemove {Ok : Nat → Prop} {b : Nat} {d : Dk.DiskD} (s : Dk.Str) (w : World) (h : DiskIs w Ok b d) (hg : Dk.Good d) (hdn : d.done.length < 67108864) (hs : s.length ≤ maxLen) :
    Calls Tryd.prog 17 #[.pointer (some ⟨b, 0, none⟩), strV s] w fun e w' => e = .returned (.int .i64 (d.remove s).2) ∧ DiskIs w' (OkN w Ok) b (d.remove s).1 ∧ Ext (DkB b w) w w' := by
  obtain ⟨bd, bn, AD, nD, cD, L, ys, h⟩ := h.out
  have hnD : nD < 67108864 := by rw [h.len, ← List.length_map (f := (·.1)), h.data]; exact hdn
  have HND := Lib.hid hnD
  clear hnD
  have hsz : ∀ x ∈ [s], x.length ≤ maxLen := fun x hx => by rw [List.mem_singleton.1 hx]; exact hs
  have ha0 : Ext Nothing w (w.alloc (.cells #[strV s] 9)) := Ext.auto
  have hq0 : Blk (w.alloc (.cells #[strV s] 9)) w.heap.size 9 #[strV s] := Blk.new _ _ _
  go_enter Tryd.func17, Tryd.ntmps17
  go_upto_region 1 with (first | go_skip | go_guarded)
  generalize hqq : w.heap.size = q at hq0 ⊢
  clear hqq
  have h0 := h.keep0 ha0
  generalize (w.alloc (.cells #[strV s] 9)) = w0 at ha0 hq0 h0 ⊢
  have q0 : w0.cell? ⟨q, 0, none⟩ = some (strV s) := hq0.cell 0
  have ha1 : Ext Nothing w0 (w0.alloc (.cells #[strV s] 9)) := Ext.auto
  have hnm : Sl (w0.alloc (.cells #[strV s] 9)) 1 (some ⟨w0.heap.size, 0, none⟩) 1 ([s].map fun x => [strV x]) := Sl.of_blk (t := 9) (cs := #[strV s]) _ (fun _ => rfl) (Blk.new _ _ _) rfl rfl
  go_upto_region 2 with (first | go_skip | go_guarded | (go_at_call 36; (with_reducible refine (dkAsk true (some ⟨w0.heap.size, 0, none⟩) 1 1 [s] _ (h0.keep0 ha1) hnm (by decide) hsz).mono ?_); rintro e w2 ⟨rfl, hx2⟩))
  have h2 := (h0.keep0 ha1).keep0 hx2
  have hq2 := (hq0.e0 ha1).e0 hx2
  have hxa := (ha0.tr ha1).tr hx2
  clear h0 hq0 ha0 ha1 hx2 q0 hnm
  have HC := Lib.hid (show (!Dk.nameOk s || !Dk.nameOk s) = !Dk.nameOk s by cases Dk.nameOk s <;> rfl)
  have HE := Lib.hid (show askF [s] true d.left = if Dk.nameOk s then (if decide (d.left = 0) then 11 else 0) else 1 by unfold askF; simp)
  rw [HE.out]
  cases hN : Dk.nameOk s with
  | false =>
    have HR := Lib.hid (show d.remove s = (d, 1) by unfold Dk.DiskD.remove Dk.DiskD.move; simp only; rw [HC.out, hN]; rfl)
    clear hN
    rw [if_neg (by simp)]
    go_wp2
    go_ret
    exact ⟨by rw [HR.out]; rfl, by rw [HR.out]; exact ⟨bd, bn, AD, nD, cD, L, ys, h2.mono (fun g _ hg => .inl hg)⟩, hxa.mono (fun _ _ e => e.elim)⟩
  | true =>
    have HN := Lib.hid hN
    clear hN
    rw [if_pos rfl]
    cases hZ : decide (d.left = 0) with
    | true =>
      have HR := Lib.hid (show d.remove s = (d, 11) by unfold Dk.DiskD.remove Dk.DiskD.move; simp only; rw [HC.out, HN.out, if_neg (by simp), if_pos (of_decide_eq_true hZ)])
      clear hZ
      rw [if_pos rfl]
      go_wp2
      go_ret
      exact ⟨by rw [HR.out]; rfl, by rw [HR.out]; exact ⟨bd, bn, AD, nD, cD, L, ys, h2.mono (fun g _ hg => .inl hg)⟩, hxa.mono (fun _ _ e => e.elim)⟩
    | false =>
      have HZ := Lib.hid (of_decide_eq_false hZ)
      clear hZ
      rw [if_neg (by simp)]
      go_upto_region 4 with (first | go_skip | go_guarded)
      have hfo := hg.files
      obtain ⟨v0, _, hlk⟩ := fm_look h2.now hfo.asc hs
      have q0 : w2.cell? ⟨q, 0, none⟩ = some (strV s) := hq2.cell 0
      have k1 : w2.cell? ⟨b, 1, none⟩ = some (.map (some bn)) := h2.blk.cell 1
      have HI := Lib.hid (show (Dk.find d.files s).isNone = !(Dk.find d.files s).isSome by cases Dk.find d.files s <;> rfl)
      generalize hsm : (Dk.find d.files s).isSome = sm at hlk HI
      clear hsm
      refine zH (S := Nothing) (by kernel_rfl) (fun Wd _ hd => ?_)
      refine zT 0 (.pointer (some ⟨b, 0, none⟩)) rfl (by kernel_rfl) (by rfl) hd (fun _ _ _ h => h) (fun W' hS' => by go_simp) ?_
      refine zT 1 (.pointer (some ⟨b, 0, none⟩)) rfl (by kernel_rfl) (by rfl) hd (fun _ _ _ h => h) (fun W' hS' => by go_simp) ?_
      refine zT 2 (.pointer (some ⟨b, 1, none⟩)) rfl (by kernel_rfl) (by rfl) hd (fun _ _ _ h => h) (fun W' hS' => by go_simp) ?_
      refine zT 3 (.map (some bn)) rfl (by kernel_rfl) (by rfl) hd (fun _ _ _ h => h) (fun W' hS' => by have q9 := hS'.c0 k1; go_simp) ?_
      refine zT 4 (strV s) rfl (by kernel_rfl) (by rfl) hd (fun _ _ _ h => h) (fun W' hS' => by have q9 := hS'.c0 q0; go_simp) ?_
      refine zT 5 (.tuple #[v0, .bool sm]) rfl (by kernel_rfl) (by rfl) hd (fun _ _ _ h => h) (fun W' hS' => by have q9 := hlk W' hS' true; rw [if_pos rfl] at q9; go_simp) ?_
      refine zT 6 (.tuple #[v0, .bool sm]) rfl (by kernel_rfl) (by rfl) hd (fun _ _ _ h => h) (fun W' hS' => by go_simp) ?_
      refine zT 7 (v0) rfl (by kernel_rfl) (by rfl) hd (fun _ _ _ h => h) (fun W' hS' => by go_simp) ?_
      refine zT 8 (.bool sm) rfl (by kernel_rfl) (by rfl) hd (fun _ _ _ h => h) (fun W' hS' => by go_simp) ?_
      refine zT 9 (v0) rfl (by kernel_rfl) (by rfl) hd (fun _ _ _ h => h) (fun W' hS' => by go_simp) ?_
      (try simp only [Act.put, zA, zB, zC, zD, zE, zF])
      refine zO 10 (by kernel_rfl) ?_
      refine wpOp_val (v := .bool sm) (w' := Wd) rfl (by rfl) (by go_simp) ⟨hd, wpAnyH_done (by kernel_rfl) ?_ _⟩
      (try simp only [Act.put, zA, zB, zC, zD, zE, zF])
      have h3 := h2.keep0 hd
      have hq3 := hq2.e0 hd
      have hxb := hxa.tr hd
      clear h2 hq2 hxa hd hlk q0 k1
      cases sm with
      | false =>
        have HR := Lib.hid (show d.remove s = (d, 12) by unfold Dk.DiskD.remove Dk.DiskD.move; simp only; rw [HC.out, HN.out, if_neg (by simp), if_neg HZ.out, HI.out]; rfl)
        go_wp2
        go_ret
        exact ⟨by rw [HR.out]; rfl, by rw [HR.out]; exact ⟨bd, bn, AD, nD, cD, L, ys, h3.mono (fun g _ hg => .inl hg)⟩, hxb.mono (fun _ _ e => e.elim)⟩
      | true =>
        have HR := Lib.hid (show d.remove s = (d.did (⟨2, s, [], []⟩ : Dk.DidD), 0) by unfold Dk.DiskD.remove Dk.DiskD.move; simp only; rw [HC.out, HN.out, if_neg (by simp), if_neg HZ.out, HI.out]; rfl)
        have hok : DeedOk (⟨2, s, [], []⟩ : Dk.DidD) := ⟨hs, by simp, by simp⟩
        have hdv : DeedV Wd Ok (.func (.func 43) #[] #[.pointer (some ⟨q, 0, none⟩)]) (⟨2, s, [], []⟩ : Dk.DidD) := .inr (.inr (.inl ⟨rfl, q, rfl, hq3⟩))
        have HUN := Lib.hid (show (1 : Int) = (Dk.units (⟨2, s, [], []⟩ : Dk.DidD) : Int) by unfold Dk.units; rw [if_neg (fun e => by simp at e)]; rfl)
        go_wp2_with (first | go_skip | go_guarded | (go_at_call 39; (rw [HUN.out]); (with_reducible refine (dkDid Wd h3 hg hdv hok HND.out).mono ?_); rintro e w6 ⟨rfl, hD6, hx6⟩))
        go_ret
        have hz5 := hxb.size
        refine ⟨by rw [HR.out]; rfl, by rw [HR.out]; exact hD6.mono (fun g _ hg => by rcases hg with hg | hg; exact .inl hg; exact .inr (by omega)), ?_⟩
        exact DkB.trans (hxb.mono (fun _ _ e => e.elim)) hx6
set_option maxRecDepth 20000 in
set_option maxHeartbeats 8000000 in
theorem dkRename {Ok : Nat → Prop} {b : Nat} {d : Dk.DiskD} (s t : Dk.Str) (w : World) (h : DiskIs w Ok b d) (hg : Dk.Good d) (hdn : d.done.length < 67108864) (hs : s.length ≤ maxLen) (ht : t.length ≤ maxLen) :
    Calls Tryd.prog 18 #[.pointer (some ⟨b, 0, none⟩), strV s, strV t] w fun e w' => e = .returned (.int .i64 (d.rename s t).2) ∧ DiskIs w' (OkN w Ok) b (d.rename s t).1 ∧ Ext (DkB b w) w w' := by
  obtain ⟨bd, bn, AD, nD, cD, L, ys, h⟩ := h.out
  have hnD : nD < 67108864 := by rw [h.len, ← List.length_map (f := (·.1)), h.data]; exact hdn
  have HND := Lib.hid hnD
  clear hnD
  have hsz : ∀ x ∈ [s, t], x.length ≤ maxLen := fun x hx => by rcases List.mem_cons.1 hx with rfl | hx; (exact hs); rw [List.mem_singleton.1 hx]; exact ht
  have ha0 : Ext Nothing w ((w.alloc (.cells #[strV s] 9)).alloc (.cells #[strV t] 9)) := Ext.auto
  have hq0 : Blk ((w.alloc (.cells #[strV s] 9)).alloc (.cells #[strV t] 9)) w.heap.size 9 #[strV s] := (Blk.new w _ _).e0 Ext.auto
  have hr0 : Blk ((w.alloc (.cells #[strV s] 9)).alloc (.cells #[strV t] 9)) (w.heap.size + 1) 9 #[strV t] := Blk.new' _ _ _ (by simp)
  go_enter Tryd.func18, Tryd.ntmps18
  go_upto_region 1 with (first | go_skip | go_guarded)
  generalize hrr : w.heap.size + 1 = r at hr0 ⊢
  clear hrr
  generalize hqq : w.heap.size = q at hq0 ⊢
  clear hqq
  have h0 := h.keep0 ha0
  generalize ((w.alloc (.cells #[strV s] 9)).alloc (.cells #[strV t] 9)) = w0 at ha0 hq0 hr0 h0 ⊢
  have q0 : w0.cell? ⟨q, 0, none⟩ = some (strV s) := hq0.cell 0
  have r0 : w0.cell? ⟨r, 0, none⟩ = some (strV t) := hr0.cell 0
  have ha1 : Ext Nothing w0 (w0.alloc (.cells #[strV s, strV t] 9)) := Ext.auto
  have hnm : Sl (w0.alloc (.cells #[strV s, strV t] 9)) 1 (some ⟨w0.heap.size, 0, none⟩) 2 ([s, t].map fun x => [strV x]) := Sl.of_blk (t := 9) (cs := #[strV s, strV t]) _ (fun _ => rfl) (Blk.new _ _ _) rfl rfl
  go_upto_region 2 with (first | go_skip | go_guarded | (go_at_call 36; (with_reducible refine (dkAsk true (some ⟨w0.heap.size, 0, none⟩) 2 2 [s, t] _ (h0.keep0 ha1) hnm (by decide) hsz).mono ?_); rintro e w2 ⟨rfl, hx2⟩))
  have h2 := (h0.keep0 ha1).keep0 hx2
  have hq2 := (hq0.e0 ha1).e0 hx2
  have hr2 := (hr0.e0 ha1).e0 hx2
  have hxa := (ha0.tr ha1).tr hx2
  clear h0 hq0 ha0 ha1 hx2 q0 hnm hr0 r0
  have HC := Lib.hid (show (!Dk.nameOk s || !Dk.nameOk t) = !(Dk.nameOk s && Dk.nameOk t) by cases Dk.nameOk s <;> cases Dk.nameOk t <;> rfl)
  have HE := Lib.hid (show askF [s, t] true d.left = if (Dk.nameOk s && Dk.nameOk t) then (if decide (d.left = 0) then 11 else 0) else 1 by unfold askF; simp)
  rw [HE.out]
  cases hN : (Dk.nameOk s && Dk.nameOk t) with
  | false =>
    have HR := Lib.hid (show d.rename s t = (d, 1) by unfold Dk.DiskD.rename Dk.DiskD.move; simp only; rw [HC.out, hN]; rfl)
    clear hN
    rw [if_neg (by simp)]
    go_wp2
    go_ret
    exact ⟨by rw [HR.out]; rfl, by rw [HR.out]; exact ⟨bd, bn, AD, nD, cD, L, ys, h2.mono (fun g _ hg => .inl hg)⟩, hxa.mono (fun _ _ e => e.elim)⟩
  | true =>
    have HN := Lib.hid hN
    clear hN
    rw [if_pos rfl]
    cases hZ : decide (d.left = 0) with
    | true =>
      have HR := Lib.hid (show d.rename s t = (d, 11) by unfold Dk.DiskD.rename Dk.DiskD.move; simp only; rw [HC.out, HN.out, if_neg (by simp), if_pos (of_decide_eq_true hZ)])
      clear hZ
      rw [if_pos rfl]
      go_wp2
      go_ret
      exact ⟨by rw [HR.out]; rfl, by rw [HR.out]; exact ⟨bd, bn, AD, nD, cD, L, ys, h2.mono (fun g _ hg => .inl hg)⟩, hxa.mono (fun _ _ e => e.elim)⟩
    | false =>
      have HZ := Lib.hid (of_decide_eq_false hZ)
      clear hZ
      rw [if_neg (by simp)]
      go_upto_region 4 with (first | go_skip | go_guarded)
      have hfo := hg.files
      obtain ⟨v0, _, hlk⟩ := fm_look h2.now hfo.asc hs
      have q0 : w2.cell? ⟨q, 0, none⟩ = some (strV s) := hq2.cell 0
      have k1 : w2.cell? ⟨b, 1, none⟩ = some (.map (some bn)) := h2.blk.cell 1
      have HI := Lib.hid (show (Dk.find d.files s).isNone = !(Dk.find d.files s).isSome by cases Dk.find d.files s <;> rfl)
      generalize hsm : (Dk.find d.files s).isSome = sm at hlk HI
      clear hsm
      refine zH (S := Nothing) (by kernel_rfl) (fun Wd _ hd => ?_)
      refine zT 0 (.pointer (some ⟨b, 0, none⟩)) rfl (by kernel_rfl) (by rfl) hd (fun _ _ _ h => h) (fun W' hS' => by go_simp) ?_
      refine zT 1 (.pointer (some ⟨b, 0, none⟩)) rfl (by kernel_rfl) (by rfl) hd (fun _ _ _ h => h) (fun W' hS' => by go_simp) ?_
      refine zT 2 (.pointer (some ⟨b, 1, none⟩)) rfl (by kernel_rfl) (by rfl) hd (fun _ _ _ h => h) (fun W' hS' => by go_simp) ?_
      refine zT 3 (.map (some bn)) rfl (by kernel_rfl) (by rfl) hd (fun _ _ _ h => h) (fun W' hS' => by have q9 := hS'.c0 k1; go_simp) ?_
      refine zT 4 (strV s) rfl (by kernel_rfl) (by rfl) hd (fun _ _ _ h => h) (fun W' hS' => by have q9 := hS'.c0 q0; go_simp) ?_
      refine zT 5 (.tuple #[v0, .bool sm]) rfl (by kernel_rfl) (by rfl) hd (fun _ _ _ h => h) (fun W' hS' => by have q9 := hlk W' hS' true; rw [if_pos rfl] at q9; go_simp) ?_
      refine zT 6 (.tuple #[v0, .bool sm]) rfl (by kernel_rfl) (by rfl) hd (fun _ _ _ h => h) (fun W' hS' => by go_simp) ?_
      refine zT 7 (v0) rfl (by kernel_rfl) (by rfl) hd (fun _ _ _ h => h) (fun W' hS' => by go_simp) ?_
      refine zT 8 (.bool sm) rfl (by kernel_rfl) (by rfl) hd (fun _ _ _ h => h) (fun W' hS' => by go_simp) ?_
      refine zT 9 (v0) rfl (by kernel_rfl) (by rfl) hd (fun _ _ _ h => h) (fun W' hS' => by go_simp) ?_
      (try simp only [Act.put, zA, zB, zC, zD, zE, zF])
      refine zO 10 (by kernel_rfl) ?_
      refine wpOp_val (v := .bool sm) (w' := Wd) rfl (by rfl) (by go_simp) ⟨hd, wpAnyH_done (by kernel_rfl) ?_ _⟩
      (try simp only [Act.put, zA, zB, zC, zD, zE, zF])
      have h3 := h2.keep0 hd
      have hq3 := hq2.e0 hd
      have hr3 := hr2.e0 hd
      have hxb := hxa.tr hd
      clear h2 hq2 hxa hd hlk q0 k1 hr2
      cases sm with
      | false =>
        have HR := Lib.hid (show d.rename s t = (d, 12) by unfold Dk.DiskD.rename Dk.DiskD.move; simp only; rw [HC.out, HN.out, if_neg (by simp), if_neg HZ.out, HI.out]; rfl)
        go_wp2
        go_ret
        exact ⟨by rw [HR.out]; rfl, by rw [HR.out]; exact ⟨bd, bn, AD, nD, cD, L, ys, h3.mono (fun g _ hg => .inl hg)⟩, hxb.mono (fun _ _ e => e.elim)⟩
      | true =>
        have HR := Lib.hid (show d.rename s t = (d.did (⟨3, s, t, []⟩ : Dk.DidD), 0) by unfold Dk.DiskD.rename Dk.DiskD.move; simp only; rw [HC.out, HN.out, if_neg (by simp), if_neg HZ.out, HI.out]; rfl)
        have hok : DeedOk (⟨3, s, t, []⟩ : Dk.DidD) := ⟨hs, ht, by simp⟩
        have hdv : DeedV Wd Ok (.func (.func 44) #[] #[.pointer (some ⟨q, 0, none⟩), .pointer (some ⟨r, 0, none⟩)]) (⟨3, s, t, []⟩ : Dk.DidD) := .inr (.inr (.inr ⟨rfl, q, r, rfl, hq3, hr3⟩))
        have HUN := Lib.hid (show (1 : Int) = (Dk.units (⟨3, s, t, []⟩ : Dk.DidD) : Int) by unfold Dk.units; rw [if_neg (fun e => by simp at e)]; rfl)
        go_wp2_with (first | go_skip | go_guarded | (go_at_call 39; (rw [HUN.out]); (with_reducible refine (dkDid Wd h3 hg hdv hok HND.out).mono ?_); rintro e w6 ⟨rfl, hD6, hx6⟩))
        go_ret
        have hz5 := hxb.size
        refine ⟨by rw [HR.out]; rfl, by rw [HR.out]; exact hD6.mono (fun g _ hg => by rcases hg with hg | hg; exact .inl hg; exact .inr (by omega)), ?_⟩
        exact DkB.trans (hxb.mono (fun _ _ e => e.elim)) hx6
end Go.Proofs.YtlfpfhdagkkliaaDoor
