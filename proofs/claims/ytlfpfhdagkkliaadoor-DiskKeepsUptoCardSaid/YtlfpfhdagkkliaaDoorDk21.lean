/- DiskKeeps: files behind a crash are a state that there was since the last Sync. (printed by wip/gen/dkkeeps.py) -/
import Derived.Test.YtlfpfhdagkkliaaDoorDkK
namespace Go.Proofs.YtlfpfhdagkkliaaDoor
set_option linter.unusedVariables false
set_option linter.unusedSimpArgs false
open Go.RowKit

set_option maxRecDepth 20000 in
set_option maxHeartbeats 16000000 in
theorem keeps_law (B : Option Addr) (q cq : Nat) (xs : List OpC) (pk : Int) (hpk : In64 pk) (w : World) (hsl : Sl w 5 B q (xs.map OpC.cells)) (hq : q ≤ 1048576) (hops : ∀ x ∈ xs, x.Read w) :
    Calls Tryd.prog 4 #[.slice B q cq, .int .i64 pk] w fun e w' => e = .returned (.bool true) ∧ Ext Nothing w w' := by
  go_enter Tryd.func4, Tryd.ntmps4
  go_upto_region 2 with (first | go_skip | go_guarded | (go_at_call 9; (with_reducible refine (dkNew w (fun _ => True)).mono ?_); rintro e w1 ⟨b, rfl, h1, hbw, hx1⟩))
  go_upto_region 4 with (first | go_skip | go_guarded | (go_at_call 11; (with_reducible refine (lawKnown w1).mono ?_); rintro e w2 ⟨rfl, hx2⟩))
  have h2 := h1.keep0 hx2
  have hx02 := hx1.tr hx2
  clear h1 hx1 hx2
  go_upto_region 6 with (first | go_skip | go_guarded | ((with_reducible refine dW ?_); refine wpList_slice1 rfl 34 _ rfl SStr #[strV []] rfl rfl ?_))
  have hI0 : KeepI w (w2.alloc (.cells #[strV []] 9)) b 0 (.slice (some ⟨w2.heap.size, 0, none⟩) 1 1) [[]] Dk.new (fun _ => True) := ⟨⟨rfl, .inr ⟨w2.heap.size, 1, _, rfl, hx02.size, Blk.new w2 _ _, Nat.le_refl _, by unfold maxLen; omega, rfl, rfl⟩⟩, by simp, by simp, h2.keep0 Ext.auto, Dk.good_new, Dk.cov_new, by simp [Dk.new], hx02.trans Ext.auto (fun _ _ e => e)⟩
  clear h2 hx02
  go_loopw [6, 7] (fun sv ki wr => ∃ t : Nat, t ≤ q ∧ ki = .int .i64 t ∧ ∃ (ss : List Dk.Str) (d : Dk.DiskD) (Ok : Nat → Prop) (B6 : Option Addr) (c6 : Nat), sv = .slice B6 ss.length c6 ∧ KeepI w wr b (41 * t) (.slice B6 ss.length c6) ss d Ok) (fun _ ki _ => q - (intOf ki).toNat)
  case atStart => exact ⟨0, Nat.zero_le _, rfl, [[]], Dk.new, _, _, _, rfl, hI0⟩
  case round =>
    clear hI0
    obtain ⟨t, ht, rfl, ss, d, Ok, B6, c6, rfl, hI⟩ := hrel
    have hx0 := hI.ext
    by_cases hlt : t < q
    · obtain ⟨hjn, p, off, hAe, hce⟩ := hsl.get hx0 hlt
      have hrw := hops _ (List.getElem_mem hjn)
      generalize xs[t] = x at hce hrw
      obtain ⟨kd, s, tt, data, nn, A, m, c⟩ := x
      subst hAe
      have HT := Lib.hid hlt
      have hk0 : (0 : Int) ≤ (t : Int) := by omega
      have hk1 : (t : Int) < q := by omega
      have hce : ∀ j u, (#[.int .i64 kd, strV s, strV tt, .slice A m c, .int .i64 nn] : Array Value).toList[j]? = some u → wr.cell? ⟨p, off + t * 5 + j, none⟩ = some u := hce
      have HQ := Lib.hid hce
      have htq : t < 1048576 := by omega
      clear hce hlt hsl hops
      go_upto_region 9 with (first | go_skip | go_guarded | ((with_reducible refine dW ?_); refine wpList_load_at rfl 31 _ rfl STOp p (off + t * 5) rfl #[.int .i64 kd, strV s, strV tt, .slice A m c, .int .i64 nn] HQ.out rfl ?_) | ((with_reducible refine dW ?_); refine wpList_store_blk rfl 31 _ _ rfl STOp wr.heap.size rfl #[.int .i64 kd, strV s, strV tt, .slice A m c, .int .i64 nn] rfl (show Blk _ _ 31 _ from Blk.new wr _ _) rfl rfl rfl ?_; intro w4 hB4 hx4))
      go_frame
      have hx5 : Ext Nothing wr w4 := (show Ext Nothing wr _ from Ext.auto).trans hx4 (fun g hg e => absurd (show g = wr.heap.size from e) (by omega))
      have hI4 := hI.e0 hx5
      have hrd4 := hrw.e0 hI4.ext
      generalize wr.heap.size = V at hB4 ⊢
      clear hI hx4 hx5 hx0 HQ
      have c0 : w4.cell? ⟨V, 0, none⟩ = some (.int .i64 kd) := hB4.cell 0
      have c1 : w4.cell? ⟨V, 1, none⟩ = some (strV s) := hB4.cell 1
      have c2 : w4.cell? ⟨V, 2, none⟩ = some (strV tt) := hB4.cell 2
      have c3 : w4.cell? ⟨V, 3, none⟩ = some (.slice A m c) := hB4.cell 3
      have c4 : w4.cell? ⟨V, 4, none⟩ = some (.int .i64 nn) := hB4.cell 4
      have hdn9 : d.done.length < 67108864 := by have := hI4.done; omega
      cases hk0 : (kd == 0) with
      | true =>
        obtain rfl : kd = 0 := by simpa using hk0
        have hmd : m = data.length := by simpa using hrd4.d.len
        have HMD := Lib.hid hmd
        clear hmd
        obtain ⟨w5, hw5⟩ : ∃ z : World, z = w4 := ⟨_, rfl⟩
        rw [← hw5] at hI4 hrd4 c0 c1 c2 c3 c4 hB4 ⊢
        clear hw5
        go_upto_region 12 with (first | go_skip | go_guarded)
        go_loopw [6, 9] (fun sv ki wr => ∃ k : Nat, k ≤ m ∧ k ≤ 40 ∧ ki = .int .i64 k ∧ ∃ (ss : List Dk.Str) (d : Dk.DiskD) (Ok : Nat → Prop) (A9 : Option Addr) (c9 : Nat), sv = .slice A9 ss.length c9 ∧ KeepI w wr b (41 * t + k) (.slice A9 ss.length c9) ss d Ok ∧ Blk wr V 31 #[.int .i64 0, strV s, strV tt, .slice A m c, .int .i64 nn]) (fun _ ki _ => m - (intOf ki).toNat)
        case atStart => exact ⟨0, Nat.zero_le _, Nat.zero_le _, rfl, ss, d, Ok, B6, c6, rfl, hI4, hB4⟩
        case round =>
          clear hI4 hrd4 c0 c1 c2 c3 c4 hB4 hdn9
          obtain ⟨k, hkm, hk40, rfl, ss, d, Ok, A9, c9, rfl, hI, hB⟩ := hrel
          have hrd := hrw.e0 hI.ext
          have c3 : wr.cell? ⟨V, 3, none⟩ = some (.slice A m c) := hB.cell 3
          by_cases hlt : k < m
          · by_cases hl4 : k < 40
            · obtain ⟨_, p9, o9, hA9, _⟩ := hrd.d.get (Ext.refl _ _) hlt
              have hA9 : A = some ⟨p9, o9, none⟩ := hA9
              subst hA9
              have hkd : k < data.length := by have := HMD.out; omega
              have hwin : Sl wr 1 (some ⟨p9, o9 + k, none⟩) 1 ([data[k]].map bCell) := Sl.window hrd.d hkd
              have hkc : k < c := by have := hrd.mc; simp only at this; omega
              have c1 : wr.cell? ⟨V, 1, none⟩ = some (strV s) := hB.cell 1
              have hdn9 : d.done.length < 67108864 := by have := hI.done; omega
              have hka : (k : Int) < m := by omega
              have hkb : (k : Int) < 40 := by omega
              have HK := Lib.hid hlt
              have HL := Lib.hid hl4
              clear hlt hl4
              generalize data[k] = x9 at hwin
              have hVn : ¬ DkB b wr V := DkB.blk hB (by decide) (by decide)
              go_upto_region 14 with (first | go_skip | go_guarded)
              refine zH (S := DkB b wr) (by kernel_rfl) (fun Wd hS hd => ?_)
              refine zT 0 (.pointer (some ⟨b, 0, none⟩)) rfl (by kernel_rfl) (by rfl) hS (fun _ _ _ h => h) (fun W' hS' => by go_simp) ?_
              refine zT 1 (.pointer (some ⟨V, 1, none⟩)) rfl (by kernel_rfl) (by rfl) hS (fun _ _ _ h => h) (fun W' hS' => by go_simp) ?_
              refine zT 2 (strV s) rfl (by kernel_rfl) (by rfl) hS (fun _ _ _ h => h) (fun W' hS' => by have q9 := hS'.cell c1 (fun e => hVn e); go_simp) ?_
              refine zT 3 (.pointer (some ⟨V, 3, none⟩)) rfl (by kernel_rfl) (by rfl) hS (fun _ _ _ h => h) (fun W' hS' => by go_simp) ?_
              refine zT 4 (.slice (some ⟨p9, o9, none⟩) m c) rfl (by kernel_rfl) (by rfl) hS (fun _ _ _ h => h) (fun W' hS' => by have q9 := hS'.cell c3 (fun e => hVn e); go_simp) ?_
              refine zT 5 (.int .i64 (k : Int)) rfl (by kernel_rfl) (by rfl) hS (fun _ _ _ h => h) (fun W' hS' => by go_simp) ?_
              refine zT 6 (.int .i64 (k : Int)) rfl (by kernel_rfl) (by rfl) hS (fun _ _ _ h => h) (fun W' hS' => by go_simp) ?_
              refine zT 7 (.int .i64 ((k : Int) + 1)) rfl (by kernel_rfl) (by rfl) hS (fun _ _ _ h => h) (fun W' hS' => by have q8 : IntKind.i64.wrap ((k : Int) + 1) = (k : Int) + 1 := (by rw [IntKind.wrap_i64]; omega); go_simp) ?_
              refine zT 8 (.slice (some ⟨p9, o9 + k, none⟩) 1 (c - k)) rfl (by kernel_rfl) (by rfl) hS (fun _ _ _ h => h) (fun W' hS' => by have q9 := window1 W' p9 o9 m c k hkc; go_simp) ?_
              (try simp only [Act.put, zA, zB, zC, zD, zE, zF])
              refine zO 9 (by kernel_rfl) ?_
              have hI5 := hI.e0 hd
              have hcall := dkAppend s (some ⟨p9, o9 + k, none⟩) 1 (c - k) [x9] Wd hI5.disk hI5.good hdn9 hrd.n1 (hwin.ext0 hd) (by omega)
              refine wpOp_call rfl (by rfl) ?_ (hcall.mono ?_)
              · go_simp
              rintro e w6 ⟨rfl, h6, hx6⟩
              have hM := hI5.write hbw h6 hx6 (by omega) (.inr (by simp))
              have hB6 := (hB.e0 hd).dk hx6 (by decide) (by decide)
              refine ⟨_, rfl, DkB.trans hS hx6, wpAnyH_done (by kernel_rfl) ?_ _⟩
              (try simp only [Act.put, zA, zB, zC, zD, zE, zF])
              clear hI hI5 hB hcall h6 hx6 hS hd c1 c3 hwin hrd hVn
              go_wp2_with (first | go_skip | go_guarded | (go_at_call 15; (with_reducible refine (lawTold w6 hM.disk hM.good).mono ?_); rintro e w7 ⟨rfl, hx7⟩) | ((with_reducible refine dW ?_); refine wpList_slice1 rfl 34 _ rfl SStr #[strV (d.write 0 s [x9]).1.told] rfl rfl ?_) | (at_builtin; refine wpList_app1k rfl _ _ 34 rfl w.heap.size SStr (.slice A9 ss.length c9) ss.length _ rfl (hM.own7 (hx7.tr Ext.auto)) hM.hv w7.heap.size 1 #[strV (d.write 0 s [x9]).1.told] rfl (Blk.new _ _ _) rfl rfl (by have := hM.len; omega) (by have := hM.ext.size; have := hx7.size; simp; omega) ?_; intro A8 c8 w8 hown8 hE8))
              have hI8 := hM.app (hx7.tr Ext.auto) hown8 hE8
              have hB8 := (hB6.e0 (hx7.tr Ext.auto)).ext hE8 (fun e => by obtain ⟨_, cs9, g1, _⟩ := e; exact Blk.ne g1 (hB6.e0 (hx7.tr Ext.auto)) (by decide) rfl)
              go_roundw
              case rel => exact ⟨k + 1, HK.out, HL.out, by go_num, ss ++ [(d.write 0 s [x9]).1.told], (d.write 0 s [x9]).1, _, A8, c8, congrArg (fun z => Value.slice A8 z c8) (by simp), hI8.mono (by omega), hB8⟩
              case measure => have := HK.out; simp [intOf]; omega
            · have hka : (k : Int) < m := by omega
              have hkb : ¬ ((k : Int) < 40) := by omega
              clear hrd hB
              go_upto_region 27 with (first | go_skip | go_guarded)
              have hM := hI.skip
              clear hI c3
              go_wp2_with (first | go_skip | go_guarded | (go_at_call 15; (with_reducible refine (lawTold wr hM.disk hM.good).mono ?_); rintro e w7 ⟨rfl, hx7⟩) | ((with_reducible refine dW ?_); refine wpList_slice1 rfl 34 _ rfl SStr #[strV d.told] rfl rfl ?_) | (at_builtin; refine wpList_app1k rfl _ _ 34 rfl w.heap.size SStr (.slice A9 ss.length c9) ss.length _ rfl (hM.own7 (hx7.tr Ext.auto)) hM.hv w7.heap.size 1 #[strV d.told] rfl (Blk.new _ _ _) rfl rfl (by have := hM.len; omega) (by have := hM.ext.size; have := hx7.size; simp; omega) ?_; intro A8 c8 w8 hown8 hE8))
              have hI8 := hM.app (hx7.tr Ext.auto) hown8 hE8
              go_roundw
              case rel => exact ⟨t + 1, HT.out, by go_num, ss ++ [d.told], d, _, A8, c8, congrArg (fun z => Value.slice A8 z c8) (by simp), hI8.mono (by omega)⟩
              case measure => have := HT.out; simp [intOf]; omega
          · have hka : ¬ ((k : Int) < m) := by omega
            clear hrd hB
            go_upto_region 27 with (first | go_skip | go_guarded)
            have hM := hI.skip
            clear hI c3
            go_wp2_with (first | go_skip | go_guarded | (go_at_call 15; (with_reducible refine (lawTold wr hM.disk hM.good).mono ?_); rintro e w7 ⟨rfl, hx7⟩) | ((with_reducible refine dW ?_); refine wpList_slice1 rfl 34 _ rfl SStr #[strV d.told] rfl rfl ?_) | (at_builtin; refine wpList_app1k rfl _ _ 34 rfl w.heap.size SStr (.slice A9 ss.length c9) ss.length _ rfl (hM.own7 (hx7.tr Ext.auto)) hM.hv w7.heap.size 1 #[strV d.told] rfl (Blk.new _ _ _) rfl rfl (by have := hM.len; omega) (by have := hM.ext.size; have := hx7.size; simp; omega) ?_; intro A8 c8 w8 hown8 hE8))
            have hI8 := hM.app (hx7.tr Ext.auto) hown8 hE8
            go_roundw
            case rel => exact ⟨t + 1, HT.out, by go_num, ss ++ [d.told], d, _, A8, c8, congrArg (fun z => Value.slice A8 z c8) (by simp), hI8.mono (by omega)⟩
            case measure => have := HT.out; simp [intOf]; omega
      | false =>
        cases hk1 : (kd == 1) with
        | true =>
          obtain rfl : kd = 1 := by simpa using hk1
          go_upto_region 27 with (first | go_skip | go_guarded | (go_at_call 16; (with_reducible refine (dkPut s A m c data w4 hI4.disk hI4.good hdn9 hrd4.n1 hrd4.d hrd4.m).mono ?_); rintro e w6 ⟨rfl, h6, hx6⟩))
          have hM := hI4.write hbw h6 hx6 (by omega) (.inl (by omega))
          clear hI4 hrd4 hx6 h6 c0 c1 c2 c3 c4 hB4
          go_wp2_with (first | go_skip | go_guarded | (go_at_call 15; (with_reducible refine (lawTold w6 hM.disk hM.good).mono ?_); rintro e w7 ⟨rfl, hx7⟩) | ((with_reducible refine dW ?_); refine wpList_slice1 rfl 34 _ rfl SStr #[strV (d.write 1 s data).1.told] rfl rfl ?_) | (at_builtin; refine wpList_app1k rfl _ _ 34 rfl w.heap.size SStr (.slice B6 ss.length c6) ss.length _ rfl (hM.own7 (hx7.tr Ext.auto)) hM.hv w7.heap.size 1 #[strV (d.write 1 s data).1.told] rfl (Blk.new _ _ _) rfl rfl (by have := hM.len; omega) (by have := hM.ext.size; have := hx7.size; simp; omega) ?_; intro A8 c8 w8 hown8 hE8))
          have hI8 := hM.app (hx7.tr Ext.auto) hown8 hE8
          go_roundw
          case rel => exact ⟨t + 1, HT.out, by go_num, ss ++ [(d.write 1 s data).1.told], (d.write 1 s data).1, _, A8, c8, congrArg (fun z => Value.slice A8 z c8) (by simp), hI8.mono (by omega)⟩
          case measure => have := HT.out; simp [intOf]; omega
        | false =>
          cases hk3 : (kd == 3) with
          | true =>
            obtain rfl : kd = 3 := by simpa using hk3
            go_upto_region 27 with (first | go_skip | go_guarded | (go_at_call 17; (with_reducible refine (dkRemove s w4 hI4.disk hI4.good hdn9 hrd4.n1).mono ?_); rintro e w6 ⟨rfl, h6, hx6⟩))
            have hM := hI4.remove hbw h6 hx6
            clear hI4 hrd4 hx6 h6 c0 c1 c2 c3 c4 hB4
            go_wp2_with (first | go_skip | go_guarded | (go_at_call 15; (with_reducible refine (lawTold w6 hM.disk hM.good).mono ?_); rintro e w7 ⟨rfl, hx7⟩) | ((with_reducible refine dW ?_); refine wpList_slice1 rfl 34 _ rfl SStr #[strV (d.remove s).1.told] rfl rfl ?_) | (at_builtin; refine wpList_app1k rfl _ _ 34 rfl w.heap.size SStr (.slice B6 ss.length c6) ss.length _ rfl (hM.own7 (hx7.tr Ext.auto)) hM.hv w7.heap.size 1 #[strV (d.remove s).1.told] rfl (Blk.new _ _ _) rfl rfl (by have := hM.len; omega) (by have := hM.ext.size; have := hx7.size; simp; omega) ?_; intro A8 c8 w8 hown8 hE8))
            have hI8 := hM.app (hx7.tr Ext.auto) hown8 hE8
            go_roundw
            case rel => exact ⟨t + 1, HT.out, by go_num, ss ++ [(d.remove s).1.told], (d.remove s).1, _, A8, c8, congrArg (fun z => Value.slice A8 z c8) (by simp), hI8.mono (by omega)⟩
            case measure => have := HT.out; simp [intOf]; omega
          | false =>
            cases hk4 : (kd == 4) with
            | true =>
              obtain rfl : kd = 4 := by simpa using hk4
              go_upto_region 27 with (first | go_skip | go_guarded | (go_at_call 18; (with_reducible refine (dkRename s tt w4 hI4.disk hI4.good hdn9 hrd4.n1 hrd4.n2).mono ?_); rintro e w6 ⟨rfl, h6, hx6⟩))
              have hM := hI4.rename hbw h6 hx6
              clear hI4 hrd4 hx6 h6 c0 c1 c2 c3 c4 hB4
              go_wp2_with (first | go_skip | go_guarded | (go_at_call 15; (with_reducible refine (lawTold w6 hM.disk hM.good).mono ?_); rintro e w7 ⟨rfl, hx7⟩) | ((with_reducible refine dW ?_); refine wpList_slice1 rfl 34 _ rfl SStr #[strV (d.rename s tt).1.told] rfl rfl ?_) | (at_builtin; refine wpList_app1k rfl _ _ 34 rfl w.heap.size SStr (.slice B6 ss.length c6) ss.length _ rfl (hM.own7 (hx7.tr Ext.auto)) hM.hv w7.heap.size 1 #[strV (d.rename s tt).1.told] rfl (Blk.new _ _ _) rfl rfl (by have := hM.len; omega) (by have := hM.ext.size; have := hx7.size; simp; omega) ?_; intro A8 c8 w8 hown8 hE8))
              have hI8 := hM.app (hx7.tr Ext.auto) hown8 hE8
              go_roundw
              case rel => exact ⟨t + 1, HT.out, by go_num, ss ++ [(d.rename s tt).1.told], (d.rename s tt).1, _, A8, c8, congrArg (fun z => Value.slice A8 z c8) (by simp), hI8.mono (by omega)⟩
              case measure => have := HT.out; simp [intOf]; omega
            | false =>
              cases hk6 : (kd == 6) with
              | true =>
                obtain rfl : kd = 6 := by simpa using hk6
                go_upto_region 27 with (first | go_skip | go_guarded | (go_at_call 19; (with_reducible refine (dkCut nn w4 hI4.disk).mono ?_); rintro e w6 ⟨rfl, h6, hx6⟩))
                have hM := hI4.cut hbw h6 hx6
                clear hI4 hrd4 hx6 h6 c0 c1 c2 c3 c4 hB4
                go_wp2_with (first | go_skip | go_guarded | (go_at_call 15; (with_reducible refine (lawTold w6 hM.disk hM.good).mono ?_); rintro e w7 ⟨rfl, hx7⟩) | ((with_reducible refine dW ?_); refine wpList_slice1 rfl 34 _ rfl SStr #[strV (d.cutAt nn).1.told] rfl rfl ?_) | (at_builtin; refine wpList_app1k rfl _ _ 34 rfl w.heap.size SStr (.slice B6 ss.length c6) ss.length _ rfl (hM.own7 (hx7.tr Ext.auto)) hM.hv w7.heap.size 1 #[strV (d.cutAt nn).1.told] rfl (Blk.new _ _ _) rfl rfl (by have := hM.len; omega) (by have := hM.ext.size; have := hx7.size; simp; omega) ?_; intro A8 c8 w8 hown8 hE8))
                have hI8 := hM.app (hx7.tr Ext.auto) hown8 hE8
                go_roundw
                case rel => exact ⟨t + 1, HT.out, by go_num, ss ++ [(d.cutAt nn).1.told], (d.cutAt nn).1, _, A8, c8, congrArg (fun z => Value.slice A8 z c8) (by simp), hI8.mono (by omega)⟩
                case measure => have := HT.out; simp [intOf]; omega
              | false =>
                cases hk5 : (kd == 5) with
                | true =>
                  obtain rfl : kd = 5 := by simpa using hk5
                  by_cases hsy : d.sync.2 = 0
                  · have hsy : d.sync.2 = 0 := hsy
                    have HSY := Lib.hid hsy
                    clear hsy
                    go_upto_region 26 with (first | go_skip | go_guarded | (go_at_call 20; (with_reducible refine (dkSync w4 hI4.disk).mono ?_); rintro e w6 ⟨rfl, h6, hx6⟩; rw [HSY.out]))
                    have hM := hI4.sync1 hbw h6 hx6 HSY.out
                    clear hI4 hrd4 hx6 h6 c0 c1 c2 c3 c4 hB4
                    go_wp2_with (first | go_skip | go_guarded | (go_at_call 15; (with_reducible refine (lawTold w6 hM.disk hM.good).mono ?_); rintro e w7 ⟨rfl, hx7⟩) | ((with_reducible refine dW ?_); refine wpList_slice1 rfl 34 _ rfl SStr #[strV d.sync.1.told] rfl rfl ?_) | (at_builtin; refine wpList_app1k rfl _ _ 34 rfl w.heap.size SStr (.slice none 0 0) 0 _ rfl (hM.own7 (hx7.tr Ext.auto)) hM.hv w7.heap.size 1 #[strV d.sync.1.told] rfl (Blk.new _ _ _) rfl rfl (by have := hM.len; omega) (by have := hM.ext.size; have := hx7.size; simp; omega) ?_; intro A8 c8 w8 hown8 hE8))
                    have hI8 := hM.app (hx7.tr Ext.auto) hown8 hE8
                    go_roundw
                    case rel => exact ⟨t + 1, HT.out, by go_num, ([] : List Dk.Str) ++ [d.sync.1.told], d.sync.1, _, A8, c8, congrArg (fun z => Value.slice A8 z c8) (by simp), hI8.mono (by omega)⟩
                    case measure => have := HT.out; simp [intOf]; omega
                  · have hsb : (d.sync.2 == 0) = false := by simp; exact hsy
                    have HSY := Lib.hid hsy
                    clear hsy
                    go_upto_region 27 with (first | go_skip | go_guarded | (go_at_call 20; (with_reducible refine (dkSync w4 hI4.disk).mono ?_); rintro e w6 ⟨rfl, h6, hx6⟩))
                    have hM := hI4.sync0 hbw h6 hx6 HSY.out
                    clear hI4 hrd4 hx6 h6 c0 c1 c2 c3 c4 hB4
                    go_wp2_with (first | go_skip | go_guarded | (go_at_call 15; (with_reducible refine (lawTold w6 hM.disk hM.good).mono ?_); rintro e w7 ⟨rfl, hx7⟩) | ((with_reducible refine dW ?_); refine wpList_slice1 rfl 34 _ rfl SStr #[strV d.sync.1.told] rfl rfl ?_) | (at_builtin; refine wpList_app1k rfl _ _ 34 rfl w.heap.size SStr (.slice B6 ss.length c6) ss.length _ rfl (hM.own7 (hx7.tr Ext.auto)) hM.hv w7.heap.size 1 #[strV d.sync.1.told] rfl (Blk.new _ _ _) rfl rfl (by have := hM.len; omega) (by have := hM.ext.size; have := hx7.size; simp; omega) ?_; intro A8 c8 w8 hown8 hE8))
                    have hI8 := hM.app (hx7.tr Ext.auto) hown8 hE8
                    go_roundw
                    case rel => exact ⟨t + 1, HT.out, by go_num, ss ++ [d.sync.1.told], d.sync.1, _, A8, c8, congrArg (fun z => Value.slice A8 z c8) (by simp), hI8.mono (by omega)⟩
                    case measure => have := HT.out; simp [intOf]; omega
                | false =>
                  go_upto_region 27 with (first | go_skip | go_guarded)
                  have hM := hI4.skip
                  clear hI4 hrd4 c0 c1 c2 c3 c4 hB4
                  go_wp2_with (first | go_skip | go_guarded | (go_at_call 15; (with_reducible refine (lawTold w4 hM.disk hM.good).mono ?_); rintro e w7 ⟨rfl, hx7⟩) | ((with_reducible refine dW ?_); refine wpList_slice1 rfl 34 _ rfl SStr #[strV d.told] rfl rfl ?_) | (at_builtin; refine wpList_app1k rfl _ _ 34 rfl w.heap.size SStr (.slice B6 ss.length c6) ss.length _ rfl (hM.own7 (hx7.tr Ext.auto)) hM.hv w7.heap.size 1 #[strV d.told] rfl (Blk.new _ _ _) rfl rfl (by have := hM.len; omega) (by have := hM.ext.size; have := hx7.size; simp; omega) ?_; intro A8 c8 w8 hown8 hE8))
                  have hI8 := hM.app (hx7.tr Ext.auto) hown8 hE8
                  go_roundw
                  case rel => exact ⟨t + 1, HT.out, by go_num, ss ++ [d.told], d, _, A8, c8, congrArg (fun z => Value.slice A8 z c8) (by simp), hI8.mono (by omega)⟩
                  case measure => have := HT.out; simp [intOf]; omega
    · have hnl : ¬ ((t : Int) < q) := by omega
      have hdn9 : d.done.length < 67108864 := by have := hI.done; omega
      go_upto_region 29 with (first | go_skip | go_guarded | (go_at_call 21; (with_reducible refine (dkCrash pk wr hI.disk hI.good hdn9 hpk).mono ?_); rintro e w6 ⟨rfl, h6, hx6⟩))
      have hK6 := DkB.fresh hbw hI.ext hx6
      have hmem := Dk.cov_end hI.cov pk
      have hg6 := Dk.good_crash hI.good pk
      have hown6 := own_dk hI.own hx6
      have hsn : ss.length < 67108864 := by have := hI.len; omega
      clear hI hx6
      go_upto_region 30 with (first | go_skip | go_guarded | (go_at_call 15; (with_reducible refine (lawTold w6 h6 hg6).mono ?_); rintro e w7 ⟨rfl, hx7⟩))
      have hown7 := own_ext hown6 hx7 (fun _ _ e => e)
      have hK7 := hK6.tr hx7
      clear hown6 h6 hg6 hx7 hK6
      have hsl7 : Sl w7 1 B6 ss.length (ss.map fun s => [strV s]) := Sl.of_own (f := fun s => [strV s]) (fun _ => rfl) (by rw [← List.map_eq_flatMap]; exact hown7) rfl
      generalize (d.crash pk).told = now at hmem ⊢
      clear hown7
      obtain ⟨w8, hw8⟩ : ∃ z : World, z = w7 := ⟨_, rfl⟩
      rw [← hw8] at hsl7 hK7 ⊢
      clear hw8
      go_upto_region 31 with (first | go_skip | go_guarded)
      go_loopw [11] (fun ki wr => ∃ i : Nat, i ≤ ss.length ∧ ki = .int .i64 i ∧ (∀ j, j < i → ss[j]? ≠ some now) ∧ Ext Nothing w8 wr) (fun ki _ => ss.length - (intOf ki).toNat)
      case atStart => exact ⟨0, Nat.zero_le _, rfl, by simp, Ext.refl _ _⟩
      case round =>
        obtain ⟨i, hi, rfl, hno, hxl⟩ := hrel
        by_cases hil : i < ss.length
        · obtain ⟨hj, q9, o9, hA9, hc9⟩ := hsl7.get hxl hil
          obtain ⟨x9, hse, hcs⟩ : ∃ x9, ss[i]? = some x9 ∧ wr.cell? ⟨q9, o9 + i, none⟩ = some (strV x9) := ⟨_, List.getElem?_eq_getElem hj, by have := hc9 0 _ rfl; simpa using this⟩
          clear hc9
          subst hA9
          have hk0 : (0 : Int) ≤ (i : Int) := by omega
          have hk1 : (i : Int) < ss.length := by omega
          have HIL := Lib.hid hil
          cases he : (x9 == now) with
          | true =>
            clear hno hse
            go_wp2_with (first | go_skip | go_guarded)
            go_ret
            exact ⟨rfl, hK7.tr hxl⟩
          | false =>
            have HNO := Lib.hid hno
            clear hno
            have HSE := Lib.hid hse
            clear hse
            have hse2 : ss[i]? ≠ some now := by rw [HSE.out]; intro e; injection e with e; rw [e] at he; simp at he
            have HS2 := Lib.hid hse2
            clear hse2
            go_wp2_with (first | go_skip | go_guarded)
            go_roundw
            case rel => exact ⟨i + 1, HIL.out, by go_num, fun j hj2 => by rcases Nat.lt_succ_iff_lt_or_eq.1 hj2 with h9 | rfl; exact HNO.out j h9; exact HS2.out, hxl⟩
            case measure => have := HIL.out; simp [intOf]; omega
        · exfalso
          obtain ⟨j, hj⟩ := List.mem_iff_getElem?.1 hmem
          have hjl := (List.getElem?_eq_some_iff.1 hj).1
          exact hno j (by omega) hj
end Go.Proofs.YtlfpfhdagkkliaaDoor
