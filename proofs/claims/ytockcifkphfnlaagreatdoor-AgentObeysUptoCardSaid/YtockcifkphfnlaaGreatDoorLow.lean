/- Small words that many texts use. -/
import Derived.Test.YtockcifkphfnlaaGreatDoorAt
import Derived.Test.YtockcifkphfnlaaGreatDoorKeep
namespace Go.Proofs.YtockcifkphfnlaaGreatDoor
set_option linter.unusedVariables false
open Go.RowKit

def In64 (a : Int) : Prop := -9223372036854775808 ≤ a ∧ a ≤ 9223372036854775807
theorem laidOut : laidOutB Tryz.prog = true := by kernel_rfl
theorem own_base {w : World} {base base' e sz n : Nat} {v : Value} {xs : List Value} (h : w.ownsRow base e sz v n xs) (hb : base' ≤ base) : w.ownsRow base' e sz v n xs := by
  refine ⟨h.1, ?_⟩
  rcases h.2 with hn | ⟨g, cap, cur, rfl, hg, rest⟩
  · exact .inl hn
  · exact .inr ⟨g, cap, cur, rfl, by omega, rest⟩
theorem Sl.old {w : World} {sz n : Nat} {A : Option Addr} {xs : List (List Value)} (h : Sl w sz A n xs) (h0 : 0 < sz) {b : Nat} (hb : A.map (·.block) = some b) (hge : w.heap.size ≤ b) : xs = [] := by
  cases hx : xs with
  | nil => rfl
  | cons y r =>
    obtain ⟨b', off, hA, hl, hc⟩ := h.2 0 y (by rw [hx]; rfl)
    rw [hA] at hb
    cases hb
    have := World.block_lt_of_cell? w _ (hc 0 _ (List.getElem?_eq_getElem (by omega)))
    have e2 : b' < w.heap.size := this
    have e3 : w.heap.size ≤ b' := hge
    omega
theorem idx_any {α : Type} (p : α → Bool) (l : List α) : decide (idxI p l ≥ 0) = l.any p := by
  rcases idx_cases p l with ⟨h, _, hno⟩ | ⟨i, y, h, hy, hp, _⟩
  · rw [h]
    have : l.any p = false := List.any_eq_false.2 (fun x hx => by simp [hno x hx])
    simp [this]
  · rw [h]
    have : l.any p = true := List.any_eq_true.2 ⟨y, List.mem_of_getElem? hy, hp⟩
    simp [this]
end Go.Proofs.YtockcifkphfnlaaGreatDoor
