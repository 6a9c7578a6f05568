/- Life: what nodes, deployments and beats read as. -/
import Derived.Test.YtaibifaeljnchaaLifeB
import Derived.Test.YtaibifaeljnchaaRead
namespace Go.Proofs.Ytaibifaeljnchaa
set_option linter.unusedVariables false
open Go.RowKit Go.ChangeShapes Go.WideShapes Go.ChangeAt

theorem own_ : ownKnob Try.prog.godebug = none := by kernel_rfl
theorem inR_of {a : Int} (h : (Lit.int .i64 a).wf = true) : InR a := by
  simpa [Lit.wf, IntKind.min, IntKind.max, IntKind.signed, IntKind.bits, InR] using h
theorem fo28 : flatOk Try.prog 2 28 = true := by kernel_rfl
theorem ft28 : flatT Try.prog 2 28 = [3, 3, 3, 4, 4, 3, 3, 3] := by kernel_rfl
section
variable {H : Type} {enc : TypeId × Value → H} {w : World} {base : Nat} {spare : Nat → Bool} {held : Bool}
theorem node_read {B : Nat} (n : Nat) (cs : List Value) (y : DataW H × List MemPlace) (h : DataW.trod enc Try.prog w base spare held n 28 cs = some y) (hB : Rows.uptoBulk y.1 ≤ B) : ∃ x : NodeD, cs = x.cells ∧ x.ok := by
  have h1 := leaves fo28 h hB
  rw [ft28] at h1
  match cs, h1 with
  | [c0, c1, c2, c3, c4, c5, c6, c7], ⟨l0, l1, l2, l3, l4, l5, l6, l7, _⟩ =>
    obtain ⟨a0, rfl, w0⟩ := l0.int Try.underlying3
    obtain ⟨a1, rfl, w1⟩ := l1.int Try.underlying3
    obtain ⟨a2, rfl, w2⟩ := l2.int Try.underlying3
    obtain ⟨a3, rfl⟩ := l3.bool Try.underlying4
    obtain ⟨a4, rfl⟩ := l4.bool Try.underlying4
    obtain ⟨a5, rfl, w5⟩ := l5.int Try.underlying3
    obtain ⟨a6, rfl, w6⟩ := l6.int Try.underlying3
    obtain ⟨a7, rfl, w7⟩ := l7.int Try.underlying3
    exact ⟨⟨a0, a1, a2, a3, a4, a5, a6, a7⟩, rfl, inR_of w0, inR_of w6, inR_of w7⟩
end
theorem c28 : Try.prog.cellsOf 28 = 8 := by kernel_rfl

theorem fo71 : flatOk Try.prog 2 71 = true := by kernel_rfl
theorem ft71 : flatT Try.prog 2 71 = [3, 3, 3, 3] := by kernel_rfl
theorem c71 : Try.prog.cellsOf 71 = 4 := by kernel_rfl
section
variable {H : Type} {enc : TypeId × Value → H} {w : World} {base : Nat} {spare : Nat → Bool} {held : Bool}
theorem deploy_read {B : Nat} (n : Nat) (cs : List Value) (y : DataW H × List MemPlace) (h : DataW.trod enc Try.prog w base spare held n 71 cs = some y) (hB : Rows.uptoBulk y.1 ≤ B) : ∃ x : DeployD, cs = x.cells ∧ x.ok := by
  have h1 := leaves fo71 h hB
  rw [ft71] at h1
  match cs, h1 with
  | [c0, c1, c2, c3], ⟨l0, l1, l2, l3, _⟩ =>
    obtain ⟨a0, rfl, w0⟩ := l0.int Try.underlying3
    obtain ⟨a1, rfl, w1⟩ := l1.int Try.underlying3
    obtain ⟨a2, rfl, w2⟩ := l2.int Try.underlying3
    obtain ⟨a3, rfl, w3⟩ := l3.int Try.underlying3
    exact ⟨⟨a0, a1, a2, a3⟩, rfl, inR_of w0, inR_of w1, inR_of w3⟩
end
end Go.Proofs.Ytaibifaeljnchaa
