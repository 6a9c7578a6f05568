/- DiskPlays: a disk does just what the document says, call by call. (printed by wip/gen/rdlaws.py) -/
import Derived.Test.YtlfpfhdagkkliaaDoorRd12
namespace Go.Proofs.YtlfpfhdagkkliaaDoor
set_option linter.unusedVariables false
set_option linter.unusedSimpArgs false
open Go.RowKit

set_option maxRecDepth 20000 in
set_option maxHeartbeats 16000000 in
theorem plays_law (B : Option Addr) (q cq : Nat) (xs : List OpC) (w : World) (hsl : Sl w 5 B q (xs.map OpC.cells)) (hq : q ≤ 1048576) (hops : ∀ x ∈ xs, x.Read w) :
    Calls Tryd.prog 3 #[.slice B q cq] w fun e w' => e = .returned (.bool true) ∧ Ext Nothing w w' := by
  go_enter Tryd.func3, Tryd.ntmps3
  go_upto_region 2 with (first | go_skip | go_guarded | (go_at_call 9; (with_reducible refine (dkNew w (fun _ => True)).mono ?_); rintro e w1 ⟨b, rfl, h1, hbw, hx1⟩))
  go_upto_region 3 with (first | go_skip | go_guarded | (go_at_call 10; (with_reducible refine (rNew w1 (fun _ => True)).mono ?_); rintro e w2 ⟨r, rfl, h2, hrw, hx2⟩))
  have hrw0 : w.heap.size ≤ r := by have := hx1.size; omega
  go_upto_region 6 with (first | go_skip | go_guarded | (go_at_call 11; (with_reducible refine (lawKnown w2).mono ?_); rintro e w3 ⟨rfl, hx3⟩))
  have hI0 := (Law.new hbw h1 hx1 hx2 h2).keep0 hx3
  clear h1 h2 hx1 hx2 hx3 hrw
  go_loopw [5] (fun ki wr => ∃ t : Nat, t ≤ q ∧ ki = .int .i64 t ∧ ∃ (d : Dk.DiskD) (Ok : Nat → Prop), Law w wr Ok b r t d d) (fun ki _ => q - (intOf ki).toNat)
  case atStart => exact ⟨0, Nat.zero_le _, rfl, Dk.new, _, hI0⟩
  case round =>
    clear hI0
    obtain ⟨t, ht, rfl, d, Ok, hI⟩ := hrel
    by_cases hlt : t < q
    · obtain ⟨hjn, p, off, hAe, hce⟩ := hsl.get hI.ext hlt
      have hrw := hops _ (List.getElem_mem hjn)
      generalize xs[t] = x at hce hrw
      obtain ⟨kd, s, tt, data, nn, A, m, c⟩ := x
      subst hAe
      have HT := Lib.hid hlt
      have hk0 : (0 : Int) ≤ (t : Int) := by omega
      have hce : ∀ j u, (#[.int .i64 kd, strV s, strV tt, .slice A m c, .int .i64 nn] : Array Value).toList[j]? = some u → wr.cell? ⟨p, off + t * 5 + j, none⟩ = some u := hce
      have HQ := Lib.hid hce
      have hcd := lawDoes ⟨kd, s, tt, data, nn, A, m, c⟩ wr hI.both (by have := hI.done; omega) (by have := hI.done2; omega) (hI.reads hbw hrw0 hrw)
      dsimp only at hcd
      have hk1 : (t : Int) < q := by omega
      clear hce
      go_wp2_with (first | go_skip | go_guarded | ((with_reducible refine dW ?_); refine wpList_load_at rfl 31 _ rfl STOp p (off + t * 5) rfl #[.int .i64 kd, strV s, strV tt, .slice A m c, .int .i64 nn] HQ.out rfl ?_) | (go_at_call 12; (refine hcd.mono ?_); rintro e w4 ⟨v9, rfl, ⟨vb, rfl, hvb⟩, hO4, hx4⟩; obtain rfl := hvb rfl; have hI4 := hI.step hbw hrw0 hO4 hx4) | (go_at_call 13; (refine (lawAlike w4 hI4.both (by have := hI4.done; have := HT.out; omega)).mono ?_); rintro e w5 ⟨rfl, hx5⟩))
      have hI5 := hI4.keep0 hx5
      go_roundw
      case rel => exact ⟨t + 1, HT.out, by go_num, _, _, hI5⟩
      case measure => have := HT.out; simp [intOf]; omega
    · have hnl : ¬ ((t : Int) < q) := by omega
      go_wp2_with (first | go_skip | go_guarded)
      go_ret
      exact ⟨rfl, hI.ext⟩
end Go.Proofs.YtlfpfhdagkkliaaDoor
