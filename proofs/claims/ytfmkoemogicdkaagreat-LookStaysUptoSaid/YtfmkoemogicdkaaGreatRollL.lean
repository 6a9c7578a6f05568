/- General words on rows and on regions that draw, for roll. -/
import Derived.Test.YtfmkoemogicdkaaGreatDone
namespace Go.Proofs.YtfmkoemogicdkaaGreat
set_option linter.unusedVariables false
open Go.RowKit

theorem run_app_op {P : Program} {o : Oper} {ρ : Operand → Value} {t : TypeId} {s x : Operand} {v u r : Value} {w w' : World} {ty : TypeId} (hty : o.type = ty) (hop : o.op = .call { callee := .builtin .append, args := #[s, x], argTypes := #[t, t] }) (hs : ρ s = v) (hx : ρ x = u)
    (h : (Builtin.append_ #[t, t] ty #[v, u]).run P w = .ok r w') : (execOp ρ o).run P w = .ok (.value r) w' := by
  subst hty
  simp [execOp, hop, resolve, invoke, builtin, hs, hx, h, Result.andThen]
theorem own_cells {w : World} {base e sz n b : Nat} {v : Value} {xs : List Value} (h : w.ownsRow base e sz v n xs) (hv : v.ownBlock = some b) {o : Obj} (ho : w.heap[b]? = some o) : o.isCells = true := by
  rcases h.2 with ⟨rfl, rfl⟩ | ⟨g, cap, cur, rfl, _, hg, _⟩
  · simp [Value.ownBlock] at hv
  · simp only [Value.ownBlock, Option.some.injEq] at hv
    subst hv
    rw [hg] at ho
    cases ho
    rfl
theorem map_no_cells {κ ν : Type} {P : Program} {K : TypeId} {eK : κ → Value} {eV : ν → Value} {w : World} {b : Nat} {L : List (κ × ν)} (h : MapIs P K eK eV w b L) {o : Obj} (ho : w.heap[b]? = some o) : o.isCells = false := by
  obtain ⟨es, clock, hb, r⟩ := h
  rw [hb] at ho
  cases ho
  rfl
theorem aget_contains (L : List (Int × Bool)) (p : List Int) (i : Int) (h : ∀ x, (aget x L).getD false = p.contains x) : ∀ x, (aget x (aput i true L)).getD false = (p ++ [i]).contains x := fun x => by
  by_cases hx : x = i
  · subst hx; rw [aget_aput_same]; simp
  · rw [aget_aput_other hx, h]; simp [hx]
end Go.Proofs.YtfmkoemogicdkaaGreat
