/- A deed's closure does what the deed says; the disk's did. -/
import Derived.Test.YtlfpfhdagkkliaaDoorDk7
namespace Go.Proofs.YtlfpfhdagkkliaaDoor
set_option linter.unusedVariables false
set_option linter.unusedSimpArgs false
open Go.RowKit
open Go.Maps Go.WideMaps

namespace Dk
/-- the first p units of a deed -/
def doesP (F : Files) (x : DidD) (p : Nat) : Files := if x.kind = 0 then does F { x with data := x.data.take p } else does F x
theorem doesP_all (F : Files) (x : DidD) : doesP F x (units x) = does F x := by
  unfold doesP
  split
  · rename_i h
    congr 1
    rw [show x.data.take (units x) = x.data from List.take_of_length_le (by unfold units; split <;> omega)]
  · rfl
end Dk
/-- what the closures ask of numbers -/
structure DeedOk (x : Dk.DidD) : Prop where
  n1 : x.name.length ≤ maxLen
  n2 : x.to_.length ≤ maxLen
  d : x.data.length ≤ 1048576
theorem fn_enter {f : Nat} (h : f = 40 ∨ f = 42 ∨ f = 43 ∨ f = 44) (args : Array Value) (w : World) : Sem.run Tryd.prog (callFunc f args) w = .ok (.enter f args) w := by
  rcases h with rfl | rfl | rfl | rfl
  · exact (enters_of Tryd.func40 (by kernel_rfl) rfl) args w
  · exact (enters_of Tryd.func42 (by kernel_rfl) rfl) args w
  · exact (enters_of Tryd.func43 (by kernel_rfl) rfl) args w
  · exact (enters_of Tryd.func44 (by kernel_rfl) rfl) args w
theorem deed_fn {w : World} {Ok : Nat → Prop} {v : Value} {x : Dk.DidD} (hv : DeedV w Ok v x) (hx : DeedOk x) : ∃ f caps, v = .func (.func f) #[] caps ∧ (∀ args w, Sem.run Tryd.prog (callFunc f args) w = .ok (.enter f args) w) ∧
    ∀ (m : Nat) (F : Dk.Files) (p : Nat), FM w Ok m F → Dk.Asc F → p ≤ 1099511627776 → ((Dk.find F x.name).getD []).length ≤ 1048576 →
      Calls Tryd.prog f (#[.map (some m), .int .i64 (p : Int)] ++ caps) w fun e w' => e = .returned (.tuple #[]) ∧ FM w' (fun g => Ok g ∨ w.heap.size ≤ g) m (Dk.doesP F x p) ∧ Ext (fun g => g = m) w w' := by
  have up : ∀ {W : World} {m : Nat} {F : Dk.Files}, FM W Ok m F → FM W (fun g => Ok g ∨ w.heap.size ≤ g) m F := fun h => h.mono (fun _ _ h => .inl h)
  rcases hv with ⟨h0, q, r, c, h1, h2, h3, h4⟩ | ⟨h0, q, r, c, h1, h2, h3, h4⟩ | ⟨h0, q, h1, h2⟩ | ⟨h0, q, r, h1, h2, h3⟩
  · refine ⟨_, _, h1, fn_enter (.inl rfl), fun m F p hF hA hp hf => ?_⟩
    obtain ⟨A, n, cc, rfl, ⟨hs, hc⟩, _⟩ := h4
    have hd := hx.d
    exact (dkAppendC p w hF hA hx.n1 h2 h3 hs hc (by have := hs.len; omega) hp hf).mono fun e w' ⟨a, b, c⟩ => ⟨a, by unfold Dk.doesP Dk.does; rw [if_pos h0, if_pos h0]; exact b, c⟩
  · refine ⟨_, _, h1, fn_enter (.inr (.inl rfl)), fun m F p hF hA hp hf => ?_⟩
    exact (dkPutC p w hF hA hx.n1 h2 h3 h4).mono fun e w' ⟨a, b, c⟩ => ⟨a, by unfold Dk.doesP Dk.does; rw [if_neg (by omega), if_neg (by omega), if_pos h0]; exact up b, c⟩
  · refine ⟨_, _, h1, fn_enter (.inr (.inr (.inl rfl))), fun m F p hF hA hp hf => ?_⟩
    exact (dkRemoveC p w hF hA hx.n1 h2).mono fun e w' ⟨a, b, c⟩ => ⟨a, by unfold Dk.doesP Dk.does; rw [if_neg (by omega), if_neg (by omega), if_neg (by omega), if_neg (by omega)]; exact up b, c⟩
  · refine ⟨_, _, h1, fn_enter (.inr (.inr (.inr rfl))), fun m F p hF hA hp hf => ?_⟩
    exact (dkRenameC p w hF hA hx.n1 hx.n2 h2 h3).mono fun e w' ⟨a, b, c⟩ => ⟨a, by unfold Dk.doesP Dk.does; rw [if_neg (by omega), if_neg (by omega), if_neg (by omega), if_pos h0]; exact up b, c⟩
end Go.Proofs.YtlfpfhdagkkliaaDoor
