/- A drawn region that reads, and calls what only makes new blocks: the walk in the text's order, by the kit's cheap steps; loads by their addresses. No function of the program is named. -/
import Derived.Test.YtockcifkphfnlaaGreatDoorCalm
import Derived.BigQuiet
namespace Go.Proofs.YtockcifkphfnlaaGreatDoor
set_option linter.unusedVariables false
open Go.RowKit

/-- a world that keeps all that there was -/
structure Later (w : World) where
  W : World
  ext : Ext Nothing w W
instance (w : World) : Nonempty (Later w) := ⟨⟨w, Ext.refl _ _⟩⟩

section
variable {P : Program} {K : Act → Prop} {a : Act} {o : Oper} {w : World}
def isLoad (o : Oper) : Bool := match o.op with | .load .. => true | _ => false
def isCall (o : Oper) : Bool := match o.op with | .call c => (match c.callee with | .value .. => true | _ => false) | _ => false
def loadOf (a : Act) (o : Oper) : Value := match o.op with | .load _ x => a.eval x | _ => undef
theorem q_load {C : World → Prop} (h : isLoad o = true) (hh : o.quiet P a C K) : o.quiet P a C K := hh
theorem q_call {C : World → Prop} (h : isCall o = true) (hh : o.quiet P a C K) : o.quiet P a C K := hh
theorem quiet_at (p : Addr) (v : Value) (hx : loadOf a o = .pointer (some p)) (hr : ∀ W, Ext Nothing w W → (execOp a.eval o).run P W = .ok (.value v) W) (hk : K (a.put o.dst v)) : o.quiet P a (fun w' => ∃ x : Later w, w' = x.W) K :=
  ⟨v, fun W hW => by obtain ⟨x, rfl⟩ := hW; unfold Oper.quietAt; rw [hr x.W x.ext]; exact ⟨rfl, rfl⟩, hk⟩
theorem quiet_call (f : FuncId) (args : Array Value) (v : Value) (hr : ∀ W, Ext Nothing w W → (execOp a.eval o).run P W = .ok (.enter f args) W) (hc : ∀ W, Ext Nothing w W → Calls P f args W fun e w' => e = .returned v ∧ Ext Nothing W w') (hk : K (a.put o.dst v)) : o.quiet P a (fun w' => ∃ x : Later w, w' = x.W) K :=
  ⟨v, fun W hW => by obtain ⟨x, rfl⟩ := hW; unfold Oper.quietAt; rw [hr x.W x.ext]; exact ⟨rfl, (hc x.W x.ext).mono fun e w' h => ⟨h.1, ⟨w', x.ext.trans h.2 (fun _ _ e => e)⟩, rfl⟩⟩, hk⟩
theorem q_region {id : Nat} {Q : Exit → Act → World → Prop} {l : List Oper} (hm : P.follows .mixedOrders = true) (hB : Region.lexB .any l.toArray = true)
    (h : wpQuiet P l.toArray (fun w' => ∃ x : Later w, w' = x.W) (fun a' => ∀ w', Ext Nothing w w' → Q .normal a' w') l a) : (Code.region id l.toArray true).wp P Q a w := by
  refine wp_region_quiet (C := fun w' => ∃ x : Later w, w' = x.W) hm hB ⟨⟨_, (Ext.refl _ _).drewN 1⟩, rfl⟩ ?_
  have e : (fun a' => ∀ w', Ext Nothing w w' → Q .normal a' w') = (fun a' : Act => ∀ w', (∃ x : Later w, w' = x.W) → Q .normal a' w') := by
    funext a'
    exact propext ⟨fun h w' hw => by obtain ⟨x, rfl⟩ := hw; exact h x.W x.ext, fun h w' hw => h w' ⟨⟨w', hw⟩, rfl⟩⟩
  rw [← e]
  simpa using h
end
end Go.Proofs.YtockcifkphfnlaaGreatDoor
