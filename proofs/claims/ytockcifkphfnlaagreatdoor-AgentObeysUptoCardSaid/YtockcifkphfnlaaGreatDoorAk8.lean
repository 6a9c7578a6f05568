/- A deed's closure does what the deed says; the disk's did. -/
import Derived.Test.YtockcifkphfnlaaGreatDoorAk6
namespace Go.Proofs.YtockcifkphfnlaaGreatDoor
set_option linter.unusedVariables false
set_option linter.unusedSimpArgs false
open Go.RowKit
open Go.Maps Go.WideMaps
variable {M : Nat → Prop}

namespace Dk
/-- the first p units of a deed -/
def doesP (F : Files) (x : DidD) (p : Nat) : Files := if x.kind = 0 then does F { x with data := x.data.take p } else does F x
theorem doesP_all (F : Files) (x : DidD) : doesP F x (units x) = does F x := by
  unfold doesP
  split
  · rename_i h
    congr 1
    rw [show x.data.take (units x) = x.data from List.take_of_length_le (by unfold units; split <;> omega)]
  · rfl
end Dk
/-- what the closures ask of numbers -/
structure DeedOk (x : Dk.DidD) : Prop where
  n1 : x.name.length ≤ maxLen
  n2 : x.to_.length ≤ maxLen
  d : x.data.length ≤ 1048576
theorem fn_enter {f : Nat} (h : f = 50) (args : Array Value) (w : World) : Sem.run Tryz.prog (callFunc f args) w = .ok (.enter f args) w := by
  subst h
  exact (enters_of Tryz.func50 (by kernel_rfl) rfl) args w
theorem deed_fn {w : World} {Ok : Nat → Prop} {v : Value} {x : Dk.DidD} (hv : DeedV w Ok v x) (hx : DeedOk x) : ∃ f caps, v = .func (.func f) #[] caps ∧ (∀ args w, Sem.run Tryz.prog (callFunc f args) w = .ok (.enter f args) w) ∧
    ∀ (m : Nat) (F : Dk.Files) (p : Nat), FM w Ok m F → Dk.Asc F → p ≤ 1099511627776 → ((Dk.find F x.name).getD []).length ≤ 1048576 →
      Calls Tryz.prog f (#[.map (some m), .int .i64 (p : Int)] ++ caps) w fun e w' => e = .returned (.tuple #[]) ∧ FM w' (fun g => Ok g ∨ w.heap.size ≤ g) m (Dk.doesP F x p) ∧ Ext (fun g => g = m) w w' := by
  have up : ∀ {W : World} {m : Nat} {F : Dk.Files}, FM W Ok m F → FM W (fun g => Ok g ∨ w.heap.size ≤ g) m F := fun h => h.mono (fun _ _ h => .inl h)
  obtain ⟨h0, q, r, c, h1, h2, h3, h4⟩ := hv
  refine ⟨_, _, h1, fn_enter rfl, fun m F p hF hA hp hf => ?_⟩
  exact (dkPutC p w hF hA hx.n1 h2 h3 h4).mono fun e w' ⟨a, b, c⟩ => ⟨a, by unfold Dk.doesP Dk.does; rw [if_neg (by omega), if_neg (by omega), if_pos h0]; exact up b, c⟩
end Go.Proofs.YtockcifkphfnlaaGreatDoor
