/- A region that draws its order, whose operations read, or call what only makes new blocks: one walk in the text's order, over the class of the worlds that keep what there was. No function of the program is named. -/
import Derived.Test.YtgjabfpkbcdkcaaGreatDoorBase
import Derived.Deep.Quiet
namespace Go.Proofs.YtgjabfpkbcdkcaaGreatDoor
set_option linter.unusedVariables false
open Go.RowKit

section
variable {P : Program} {ops : Array Oper} {C : World → Prop} {Q : Act → Prop} {a : Act} {o : Oper} {rest : List Oper}
/-- the walk in the text's order, shut (else each step's target is laid open, guards and all) -/
structure Calm (P : Program) (ops : Array Oper) (C : World → Prop) (Q : Act → Prop) (l : List Oper) (a : Act) : Prop where
  out : wpQuiet P ops C Q l a
theorem calm_region {id : Nat} {Q : Exit → Act → World → Prop} {w : World} {l : List Oper} (hm : P.follows .mixedOrders = true) (hB : Region.lexB .any l.toArray = true)
    (h : Calm P l.toArray (fun w' => Ext Nothing w w') (fun a' => ∀ w', Ext Nothing w w' → Q .normal a' w') l a) : (Code.region id l.toArray true).wp P Q a w :=
  wp_region_quiet (C := fun w' => Ext Nothing w w') hm hB ((Ext.refl _ _).drewN 1) (by simpa using h.out)
theorem calm_val {v : Value} (hw : Region.wanted o (yielded ops a.tmps) = true) (hr : ∀ W, C W → (execOp a.eval o).run P W = .ok (.value v) W) (h : Calm P ops C Q rest (a.put o.dst v)) : Calm P ops C Q (o :: rest) a :=
  ⟨wpQuiet_step fun K hK => by
    rw [if_pos hw]
    exact ⟨v, fun W hW => by unfold Oper.quietAt; rw [hr W hW]; exact ⟨rfl, rfl⟩, hK _ h.out⟩⟩
theorem calm_call {v : Value} {f : FuncId} {args : Array Value} (hw : Region.wanted o (yielded ops a.tmps) = true) (hr : ∀ W, C W → (execOp a.eval o).run P W = .ok (.enter f args) W) (hc : ∀ W, C W → Calls P f args W fun e w' => e = .returned v ∧ C w') (h : Calm P ops C Q rest (a.put o.dst v)) : Calm P ops C Q (o :: rest) a :=
  ⟨wpQuiet_step fun K hK => by
    rw [if_pos hw]
    exact ⟨v, fun W hW => by unfold Oper.quietAt; rw [hr W hW]; exact ⟨rfl, hc W hW⟩, hK _ h.out⟩⟩
theorem calm_skip (hw : Region.wanted o (yielded ops a.tmps) = false) (h : Calm P ops C Q rest (a.put o.dst undef)) : Calm P ops C Q (o :: rest) a :=
  ⟨wpQuiet_step fun K hK => by rw [if_neg (by rw [hw]; exact Bool.false_ne_true)]; exact hK _ h.out⟩
theorem calm_nil (h : Q a) : Calm P ops C Q [] a := ⟨h⟩
end
end Go.Proofs.YtgjabfpkbcdkcaaGreatDoor
