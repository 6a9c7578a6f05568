/- What a step was answered is told as the document says: the law's walk. -/
import Derived.Test.YtgjabfpkbcdkcaaGreatDoorLs4
import Derived.Test.YtgjabfpkbcdkcaaGreatDoorEk
namespace Go.Proofs.YtgjabfpkbcdkcaaGreatDoor
set_option linter.unusedVariables false
set_option linter.unusedSimpArgs false
open Go.RowKit

set_option maxRecDepth 20000 in
set_option maxHeartbeats 8000000 in
theorem shows_law (A : Option Addr) (n c : Nat) (l : List AnsV) (e : Int) (w : World) (hl : Sl w 6 A n (l.map AnsV.cells)) (hok : ∀ x ∈ l, x.Ok) (hn : n ≤ 1048576) (he : I64 e) (ht : PTab w) :
    Calls Tryz.prog 5 #[.slice A n c, .int .i64 e] w fun r w' => r = .returned (.bool true) ∧ Ext Nothing w w' := by
  have hs := lsShow A n c l e w hl hok hn he ht
  go_enter Tryz.func5, Tryz.ntmps5
  generalize hF : showF (l.map AnsV.d) e = F at hs
  have HF := Lib.hid hF
  go_wp2_with (first | go_skip | go_guarded | (go_at_call 12; (with_reducible refine hs.mono ?_); rintro v w2 ⟨rfl, hx2⟩; have hr := lsRef A n c l e w2 (hl.ext0 hx2) hok hn he; rw [hF] at hr) | (go_at_call 13; (with_reducible refine hr.mono ?_); rintro v w3 ⟨rfl, hx3⟩) | (go_at_call 8; (with_reducible refine (lives22 _).mono ?_); rintro v w4 ⟨rfl, g1, g2, g3, g4, g5⟩))
  go_ret
  exact ⟨rfl, (hx2.tr hx3).tr ⟨g1, g2, g3, g4, fun k hk _ => g5 k hk⟩⟩
end Go.Proofs.YtgjabfpkbcdkcaaGreatDoor
