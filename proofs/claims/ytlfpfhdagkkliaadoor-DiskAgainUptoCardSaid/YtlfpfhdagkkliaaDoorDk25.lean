/- DiskAgain: a second crash takes nothing. (printed by wip/gen/rdlaws.py) -/
import Derived.Test.YtlfpfhdagkkliaaDoorRd12
namespace Go.Proofs.YtlfpfhdagkkliaaDoor
set_option linter.unusedVariables false
set_option linter.unusedSimpArgs false
open Go.RowKit

set_option maxRecDepth 20000 in
set_option maxHeartbeats 16000000 in
theorem again_law (B : Option Addr) (q cq : Nat) (xs : List OpC) (pk : Int) (hpk : In64 pk) (ag : Int) (hag : In64 ag) (w : World) (hsl : Sl w 5 B q (xs.map OpC.cells)) (hq : q ≤ 1048576) (hops : ∀ x ∈ xs, x.Read w) :
    Calls Tryd.prog 8 #[.slice B q cq, .int .i64 pk, .int .i64 ag] w fun e w' => e = .returned (.bool true) ∧ Ext Nothing w w' := by
  go_enter Tryd.func8, Tryd.ntmps8
  go_upto_region 2 with (first | go_skip | go_guarded | (go_at_call 9; (with_reducible refine (dkNew w (fun _ => True)).mono ?_); rintro e w1 ⟨b, rfl, h1, hbw, hx1⟩))
  go_upto_region 3 with (first | go_skip | go_guarded | (go_at_call 10; (with_reducible refine (rNew w1 (fun _ => True)).mono ?_); rintro e w2 ⟨r, rfl, h2, hrw, hx2⟩))
  have hrw0 : w.heap.size ≤ r := by have := hx1.size; omega
  go_upto_region 6 with (first | go_skip | go_guarded | (go_at_call 11; (with_reducible refine (lawKnown w2).mono ?_); rintro e w3 ⟨rfl, hx3⟩))
  have hI0 := (Law.new hbw h1 hx1 hx2 h2).keep0 hx3
  clear h1 h2 hx1 hx2 hx3 hrw
  go_loopw [9] (fun ki wr => ∃ t : Nat, t ≤ q ∧ ki = .int .i64 t ∧ ∃ (d : Dk.DiskD) (Ok : Nat → Prop), Law w wr Ok b r t d d) (fun ki _ => q - (intOf ki).toNat)
  case atStart => exact ⟨0, Nat.zero_le _, rfl, Dk.new, _, hI0⟩
  case round =>
    clear hI0
    obtain ⟨t, ht, rfl, d, Ok, hI⟩ := hrel
    by_cases hlt : t < q
    · obtain ⟨hjn, p, off, hAe, hce⟩ := hsl.get hI.ext hlt
      have hrw := hops _ (List.getElem_mem hjn)
      generalize xs[t] = x at hce hrw
      obtain ⟨kd, s, tt, data, nn, A, m, c⟩ := x
      subst hAe
      have HT := Lib.hid hlt
      have hk0 : (0 : Int) ≤ (t : Int) := by omega
      have hce : ∀ j u, (#[.int .i64 kd, strV s, strV tt, .slice A m c, .int .i64 nn] : Array Value).toList[j]? = some u → wr.cell? ⟨p, off + t * 5 + j, none⟩ = some u := hce
      have HQ := Lib.hid hce
      have hcd := lawDoes ⟨kd, s, tt, data, nn, A, m, c⟩ wr hI.both (by have := hI.done; omega) (by have := hI.done2; omega) (hI.reads hbw hrw0 hrw)
      dsimp only at hcd
      have hk1 : (t : Int) < q := by omega
      clear hce hlt
      go_wp2_with (first | go_skip | go_guarded | ((with_reducible refine dW ?_); refine wpList_load_at rfl 31 _ rfl STOp p (off + t * 5) rfl #[.int .i64 kd, strV s, strV tt, .slice A m c, .int .i64 nn] HQ.out rfl ?_) | (go_at_call 12; (refine hcd.mono ?_); rintro e w4 ⟨v9, rfl, ⟨vb, rfl, hvb⟩, hO4, hx4⟩))
      have hI5 := hI.step hbw hrw0 hO4 hx4
      go_roundw
      case rel => exact ⟨t + 1, HT.out, by go_num, _, _, hI5⟩
      case measure => have := HT.out; simp [intOf]; omega
    · have hnl : ¬ ((t : Int) < q) := by omega
      have hg := hI.both.good
      have hg2 := Dk.good_crash hg pk
      have hdn : d.done.length < 67108864 := by have := hI.done; omega
      have hdn2 : (d.crash pk).done.length < 67108864 := by simp [Dk.DiskD.crash]
      have HTE := Lib.hid (Dk.crash_told d pk ag)
      have HSY := Lib.hid (Dk.crash_sync (d.crash pk) ag)
      have hD := hI.both.disk
      go_upto_region 10 with (first | go_skip | go_guarded | (go_at_call 21; (with_reducible refine (dkCrash pk wr hD hg hdn hpk).mono ?_); rintro e w5 ⟨rfl, h5, hx5⟩))
      go_upto_region 11 with (first | go_skip | go_guarded | (go_at_call 15; (with_reducible refine (lawTold w5 h5 hg2).mono ?_); rintro e w6 ⟨rfl, hx6⟩))
      go_upto_region 12 with (first | go_skip | go_guarded | (go_at_call 21; (with_reducible refine (dkCrash ag w6 (h5.keep0 hx6) hg2 hdn2 hag).mono ?_); rintro e w7 ⟨rfl, h7, hx7⟩))
      have hx07 := DkB.fresh hbw ((DkB.fresh hbw hI.ext hx5).tr hx6) hx7
      go_upto_region 13 with (first | go_skip | go_guarded | (go_at_call 15; (with_reducible refine (lawTold w7 h7 (Dk.good_crash hg2 ag)).mono ?_); rintro e w8 ⟨rfl, hx8⟩; rw [HTE.out]))
      generalize (d.crash pk).told = tl
      go_wp2_with (first | go_skip | go_guarded | (go_at_call 20; (with_reducible refine (dkSync w8 (h7.keep0 hx8)).mono ?_); rintro e w9 ⟨rfl, h9, hx9⟩; rw [HSY.out]))
      go_ret
      exact ⟨rfl, DkB.fresh hbw (hx07.tr hx8) hx9⟩
end Go.Proofs.YtlfpfhdagkkliaaDoor
