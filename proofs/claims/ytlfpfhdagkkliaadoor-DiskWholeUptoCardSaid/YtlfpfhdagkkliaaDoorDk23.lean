/- DiskWhole: what was synced is there behind any crash, and a second crash changes nothing. (printed by wip/gen/rdlaws.py) -/
import Derived.Test.YtlfpfhdagkkliaaDoorRd12
namespace Go.Proofs.YtlfpfhdagkkliaaDoor
set_option linter.unusedVariables false
set_option linter.unusedSimpArgs false
open Go.RowKit

set_option maxRecDepth 20000 in
set_option maxHeartbeats 16000000 in
theorem whole_law (B : Option Addr) (q cq : Nat) (xs : List OpC) (B2 : Option Addr) (q2 cq2 : Nat) (xs2 : List OpC) (w : World) (hsl : Sl w 5 B q (xs.map OpC.cells)) (hq : q ≤ 1048576) (hops : ∀ x ∈ xs, x.Read w) (hsl2 : Sl w 5 B2 q2 (xs2.map OpC.cells)) (hq2 : q2 ≤ 1048576) (hops2 : ∀ x ∈ xs2, x.Read w) :
    Calls Tryd.prog 5 #[.slice B q cq, .slice B2 q2 cq2] w fun e w' => e = .returned (.bool true) ∧ Ext Nothing w w' := by
  go_enter Tryd.func5, Tryd.ntmps5
  go_upto_region 2 with (first | go_skip | go_guarded | (go_at_call 9; (with_reducible refine (dkNew w (fun _ => True)).mono ?_); rintro e w1 ⟨b, rfl, h1, hbw, hx1⟩))
  go_upto_region 4 with (first | go_skip | go_guarded | (go_at_call 11; (with_reducible refine (lawKnown w1).mono ?_); rintro e w2 ⟨rfl, hx2⟩))
  go_upto_region 6 with (first | go_skip | go_guarded | (go_at_call 10; (with_reducible refine (rNew w2 (fun _ => True)).mono ?_); rintro e w3 ⟨r, rfl, h2, hrw, hx3⟩))
  have hrw0 : w.heap.size ≤ r := by have := (hx1.tr hx2).size; omega
  have hI0 := Law.new hbw h1 hx1 (hx2.tr hx3) h2
  clear h1 h2 hx1 hx2 hx3 hrw
  go_loopw [7] (fun ki wr => ∃ t : Nat, t ≤ q ∧ ki = .int .i64 t ∧ ∃ (d : Dk.DiskD) (Ok : Nat → Prop), Law w wr Ok b r t d d) (fun ki _ => q - (intOf ki).toNat)
  case atStart => exact ⟨0, Nat.zero_le _, rfl, Dk.new, _, hI0⟩
  case round =>
    clear hI0
    obtain ⟨t, ht, rfl, d, Ok, hI⟩ := hrel
    by_cases hlt : t < q
    · obtain ⟨hjn, p, off, hAe, hce⟩ := hsl.get hI.ext hlt
      have hrw := hops _ (List.getElem_mem hjn)
      generalize xs[t] = x at hce hrw
      obtain ⟨kd, s, tt, data, nn, A, m, c⟩ := x
      subst hAe
      have HT := Lib.hid hlt
      have hk0 : (0 : Int) ≤ (t : Int) := by omega
      have hce : ∀ j u, (#[.int .i64 kd, strV s, strV tt, .slice A m c, .int .i64 nn] : Array Value).toList[j]? = some u → wr.cell? ⟨p, off + t * 5 + j, none⟩ = some u := hce
      have HQ := Lib.hid hce
      have hcd := lawDoes ⟨kd, s, tt, data, nn, A, m, c⟩ wr hI.both (by have := hI.done; omega) (by have := hI.done2; omega) (hI.reads hbw hrw0 hrw)
      dsimp only at hcd
      have hk1 : (t : Int) < q := by omega
      clear hce hlt
      go_wp2_with (first | go_skip | go_guarded | ((with_reducible refine dW ?_); refine wpList_load_at rfl 31 _ rfl STOp p (off + t * 5) rfl #[.int .i64 kd, strV s, strV tt, .slice A m c, .int .i64 nn] HQ.out rfl ?_) | (go_at_call 12; (refine hcd.mono ?_); rintro e w4 ⟨v9, rfl, ⟨vb, rfl, hvb⟩, hO4, hx4⟩))
      have hI5 := hI.step hbw hrw0 hO4 hx4
      go_roundw
      case rel => exact ⟨t + 1, HT.out, by go_num, _, _, hI5⟩
      case measure => have := HT.out; simp [intOf]; omega
    · have hnl : ¬ ((t : Int) < q) := by omega
      by_cases hsy : d.sync.2 = 0
      · have HSY := Lib.hid hsy
        clear hsy
        have hg9 := hI.both.good
        have hD9 := hI.both.disk
        have htq : t ≤ q := ht
        go_upto_region 10 with (first | go_skip | go_guarded | (go_at_call 20; (with_reducible refine (dkSync wr hD9).mono ?_); rintro e w5 ⟨rfl, h5, hx5⟩; rw [HSY.out]))
        have hIs := hI.sync hbw h5 hx5
        obtain ⟨dS, hdS⟩ : ∃ z, z = d.sync.1 := ⟨_, rfl⟩
        rw [← hdS] at hIs
        have HDS := Lib.hid hdS
        clear h5 hx5 hD9 hI hg9 hdS
        go_upto_region 11 with (first | go_skip | go_guarded | (go_at_call 15; (with_reducible refine (lawTold w5 hIs.both.disk hIs.both.good).mono ?_); rintro e w6 ⟨rfl, hx6⟩))
        have hI6 := hIs.keep0 hx6
        have hI60 : Law w w6 Ok b r (q + 0) dS d := ⟨hI6.both, by have := hI6.done; omega, by have := hI6.done2; omega, hI6.ext⟩
        clear hIs hx6 hI6
        go_upto_region 12 with (first | go_skip | go_guarded)
        go_loopw [10] (fun ki wr => ∃ t : Nat, t ≤ q2 ∧ ki = .int .i64 t ∧ ∃ (d f : Dk.DiskD) (Ok : Nat → Prop), Law w wr Ok b r (q + t) d f ∧ d.dur = dS.dur) (fun ki _ => q2 - (intOf ki).toNat)
        case atStart => exact ⟨0, Nat.zero_le _, rfl, dS, d, Ok, hI60, rfl⟩
        case round =>
          clear hI60
          obtain ⟨t, ht, rfl, d2, f2, Ok2, hI2, hdur⟩ := hrel
          by_cases hlt : t < q2
          · obtain ⟨hjn, p, off, hAe, hce⟩ := hsl2.get hI2.ext hlt
            have hrw := hops2 _ (List.getElem_mem hjn)
            generalize xs2[t] = x at hce hrw
            obtain ⟨kd, s, tt, data, nn, A, m, c⟩ := x
            subst hAe
            have HT := Lib.hid hlt
            have hk0 : (0 : Int) ≤ (t : Int) := by omega
            have hce : ∀ j u, (#[.int .i64 kd, strV s, strV tt, .slice A m c, .int .i64 nn] : Array Value).toList[j]? = some u → wr.cell? ⟨p, off + t * 5 + j, none⟩ = some u := hce
            have HQ := Lib.hid hce
            have hcd := lawDoes ⟨kd, s, tt, data, nn, A, m, c⟩ wr hI2.both (by have := hI2.done; omega) (by have := hI2.done2; omega) (hI2.reads hbw hrw0 hrw)
            dsimp only at hcd
            have hk1 : (t : Int) < q2 := by omega
            have kq : wr.cell? ⟨p, off + t * 5, none⟩ = some (.int .i64 kd) := by have := HQ.out 0 _ rfl; simpa using this
            clear hce hlt
            cases hk5 : (kd != 5) with
            | false =>
              clear hcd hrw
              have hI5 : Law w wr Ok2 b r (q + (t + 1)) d2 f2 := by have := hI2.more; rw [show q + (t + 1) = q + t + 1 by omega]; exact this
              have hdur5 := hdur
              clear hI2 hdur
              go_wp2_with (first | go_skip | go_guarded)
              go_roundw
              case rel => exact ⟨t + 1, HT.out, by go_num, _, _, _, hI5, hdur5⟩
              case measure => have := HT.out; simp [intOf]; omega
            | true =>
              cases hk7 : (kd != 7) with
              | false =>
                clear hcd hrw
                have hI5 : Law w wr Ok2 b r (q + (t + 1)) d2 f2 := by have := hI2.more; rw [show q + (t + 1) = q + t + 1 by omega]; exact this
                have hdur5 := hdur
                clear hI2 hdur
                go_wp2_with (first | go_skip | go_guarded)
                go_roundw
                case rel => exact ⟨t + 1, HT.out, by go_num, _, _, _, hI5, hdur5⟩
                case measure => have := HT.out; simp [intOf]; omega
              | true =>
                have hdur5 : (OpC.step ⟨kd, s, tt, data, nn, A, m, c⟩ d2).dur = dS.dur := by unfold OpC.step; rw [Dk.step_dur (by simpa using hk5) (by simpa using hk7)]; exact hdur
                clear hdur
                go_wp2_with (first | go_skip | go_guarded | ((with_reducible refine dW ?_); refine wpList_load_at rfl 31 _ rfl STOp p (off + t * 5) rfl #[.int .i64 kd, strV s, strV tt, .slice A m c, .int .i64 nn] HQ.out rfl ?_) | (go_at_call 12; (refine hcd.mono ?_); rintro e w4 ⟨v9, rfl, ⟨vb, rfl, hvb⟩, hO4, hx4⟩))
                have hI5 := hI2.step hbw hrw0 hO4 hx4
                rw [show q + t + 1 = q + (t + 1) by omega] at hI5
                go_roundw
                case rel => exact ⟨t + 1, HT.out, by go_num, _, _, _, hI5, hdur5⟩
                case measure => have := HT.out; simp [intOf]; omega
          · have hnl2 : ¬ ((t : Int) < q2) := by omega
            have hg := hI2.both.good
            have hdn : d2.done.length < 67108864 := by have := hI2.done; omega
            have hD := hI2.both.disk
            have hg2 := Dk.good_crash hg 0
            have hdn2 : (d2.crash 0).done.length < 67108864 := by simp [Dk.DiskD.crash]
            have HTE2 := Lib.hid (Dk.crash_told d2 0 17)
            go_upto_region 17 with (first | go_skip | go_guarded | (go_at_call 21; (with_reducible refine (dkCrash 0 wr hD hg hdn (by unfold In64; omega)).mono ?_); rintro e w5 ⟨rfl, h5, hx5⟩))
            have hx05 := DkB.fresh hbw hI2.ext hx5
            have HTE := Lib.hid (show (d2.crash 0).told = dS.told from by rw [HDS.out]; exact Dk.crash0_told HSY.out (by rw [← HDS.out]; exact hdur))
            go_upto_region 19 with (first | go_skip | go_guarded | (go_at_call 15; (with_reducible refine (lawTold w5 h5 hg2).mono ?_); rintro e w6 ⟨rfl, hx6⟩; rw [HTE.out]))
            go_upto_region 20 with (first | go_skip | go_guarded | (go_at_call 21; (with_reducible refine (dkCrash 17 w6 (h5.keep0 hx6) hg2 hdn2 (by unfold In64; omega)).mono ?_); rintro e w7 ⟨rfl, h7, hx7⟩))
            have hx07 := DkB.fresh hbw (hx05.tr hx6) hx7
            go_wp2_with (first | go_skip | go_guarded | (go_at_call 15; (with_reducible refine (lawTold w7 h7 (Dk.good_crash hg2 17)).mono ?_); rintro e w8 ⟨rfl, hx8⟩; rw [HTE2.out, HTE.out]))
            go_ret
            exact ⟨rfl, hx07.tr hx8⟩
      · have hsb : (d.sync.2 == 0) = false := by simp; exact hsy
        have HSY := Lib.hid hsy
        clear hsy
        have hg9 := hI.both.good
        have hD9 := hI.both.disk
        have htq : t ≤ q := ht
        go_upto_region 10 with (first | go_skip | go_guarded | (go_at_call 20; (with_reducible refine (dkSync wr hD9).mono ?_); rintro e w5 ⟨rfl, h5, hx5⟩))
        have hIs := hI.sync hbw h5 hx5
        obtain ⟨dS, hdS⟩ : ∃ z, z = d.sync.1 := ⟨_, rfl⟩
        rw [← hdS] at hIs
        have HDS := Lib.hid hdS
        clear h5 hx5 hD9 hI hg9 hdS
        go_upto_region 11 with (first | go_skip | go_guarded | (go_at_call 15; (with_reducible refine (lawTold w5 hIs.both.disk hIs.both.good).mono ?_); rintro e w6 ⟨rfl, hx6⟩))
        have hI6 := hIs.keep0 hx6
        have hI60 : Law w w6 Ok b r (q + 0) dS d := ⟨hI6.both, by have := hI6.done; omega, by have := hI6.done2; omega, hI6.ext⟩
        clear hIs hx6 hI6
        go_upto_region 12 with (first | go_skip | go_guarded)
        go_loopw [10] (fun ki wr => ∃ t : Nat, t ≤ q2 ∧ ki = .int .i64 t ∧ ∃ (d f : Dk.DiskD) (Ok : Nat → Prop), Law w wr Ok b r (q + t) d f ∧ d.dur = dS.dur) (fun ki _ => q2 - (intOf ki).toNat)
        case atStart => exact ⟨0, Nat.zero_le _, rfl, dS, d, Ok, hI60, rfl⟩
        case round =>
          clear hI60
          obtain ⟨t, ht, rfl, d2, f2, Ok2, hI2, hdur⟩ := hrel
          by_cases hlt : t < q2
          · obtain ⟨hjn, p, off, hAe, hce⟩ := hsl2.get hI2.ext hlt
            have hrw := hops2 _ (List.getElem_mem hjn)
            generalize xs2[t] = x at hce hrw
            obtain ⟨kd, s, tt, data, nn, A, m, c⟩ := x
            subst hAe
            have HT := Lib.hid hlt
            have hk0 : (0 : Int) ≤ (t : Int) := by omega
            have hce : ∀ j u, (#[.int .i64 kd, strV s, strV tt, .slice A m c, .int .i64 nn] : Array Value).toList[j]? = some u → wr.cell? ⟨p, off + t * 5 + j, none⟩ = some u := hce
            have HQ := Lib.hid hce
            have hcd := lawDoes ⟨kd, s, tt, data, nn, A, m, c⟩ wr hI2.both (by have := hI2.done; omega) (by have := hI2.done2; omega) (hI2.reads hbw hrw0 hrw)
            dsimp only at hcd
            have hk1 : (t : Int) < q2 := by omega
            have kq : wr.cell? ⟨p, off + t * 5, none⟩ = some (.int .i64 kd) := by have := HQ.out 0 _ rfl; simpa using this
            clear hce hlt
            cases hk5 : (kd != 5) with
            | false =>
              clear hcd hrw
              have hI5 : Law w wr Ok2 b r (q + (t + 1)) d2 f2 := by have := hI2.more; rw [show q + (t + 1) = q + t + 1 by omega]; exact this
              have hdur5 := hdur
              clear hI2 hdur
              go_wp2_with (first | go_skip | go_guarded)
              go_roundw
              case rel => exact ⟨t + 1, HT.out, by go_num, _, _, _, hI5, hdur5⟩
              case measure => have := HT.out; simp [intOf]; omega
            | true =>
              cases hk7 : (kd != 7) with
              | false =>
                clear hcd hrw
                have hI5 : Law w wr Ok2 b r (q + (t + 1)) d2 f2 := by have := hI2.more; rw [show q + (t + 1) = q + t + 1 by omega]; exact this
                have hdur5 := hdur
                clear hI2 hdur
                go_wp2_with (first | go_skip | go_guarded)
                go_roundw
                case rel => exact ⟨t + 1, HT.out, by go_num, _, _, _, hI5, hdur5⟩
                case measure => have := HT.out; simp [intOf]; omega
              | true =>
                have hdur5 : (OpC.step ⟨kd, s, tt, data, nn, A, m, c⟩ d2).dur = dS.dur := by unfold OpC.step; rw [Dk.step_dur (by simpa using hk5) (by simpa using hk7)]; exact hdur
                clear hdur
                go_wp2_with (first | go_skip | go_guarded | ((with_reducible refine dW ?_); refine wpList_load_at rfl 31 _ rfl STOp p (off + t * 5) rfl #[.int .i64 kd, strV s, strV tt, .slice A m c, .int .i64 nn] HQ.out rfl ?_) | (go_at_call 12; (refine hcd.mono ?_); rintro e w4 ⟨v9, rfl, ⟨vb, rfl, hvb⟩, hO4, hx4⟩))
                have hI5 := hI2.step hbw hrw0 hO4 hx4
                rw [show q + t + 1 = q + (t + 1) by omega] at hI5
                go_roundw
                case rel => exact ⟨t + 1, HT.out, by go_num, _, _, _, hI5, hdur5⟩
                case measure => have := HT.out; simp [intOf]; omega
          · have hnl2 : ¬ ((t : Int) < q2) := by omega
            have hg := hI2.both.good
            have hdn : d2.done.length < 67108864 := by have := hI2.done; omega
            have hD := hI2.both.disk
            have hg2 := Dk.good_crash hg 0
            have hdn2 : (d2.crash 0).done.length < 67108864 := by simp [Dk.DiskD.crash]
            have HTE2 := Lib.hid (Dk.crash_told d2 0 17)
            go_upto_region 17 with (first | go_skip | go_guarded | (go_at_call 21; (with_reducible refine (dkCrash 0 wr hD hg hdn (by unfold In64; omega)).mono ?_); rintro e w5 ⟨rfl, h5, hx5⟩))
            have hx05 := DkB.fresh hbw hI2.ext hx5
            go_upto_region 20 with (first | go_skip | go_guarded | (go_at_call 21; (with_reducible refine (dkCrash 17 w5 h5 hg2 hdn2 (by unfold In64; omega)).mono ?_); rintro e w7 ⟨rfl, h7, hx7⟩))
            have hx07 := DkB.fresh hbw hx05 hx7
            go_wp2_with (first | go_skip | go_guarded)
            go_ret
            exact ⟨rfl, hx07⟩
end Go.Proofs.YtlfpfhdagkkliaaDoor
