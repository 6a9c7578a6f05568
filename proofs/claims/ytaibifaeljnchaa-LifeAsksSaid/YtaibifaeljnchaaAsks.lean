/- For every list of nodes and every number LifeAsks returns true, and what it was given reads as it did: no condition. -/
import Derived.Test.YtaibifaeljnchaaLifeD
import Derived.Test.YtaibifaeljnchaaRead
namespace Go.Proofs.Ytaibifaeljnchaa
open Go.RowKit Go.ChangeShapes Go.WideShapes Go.ChangeAt

theorem own_ : ownKnob Try.prog.godebug = none := by kernel_rfl
theorem inR_of {a : Int} (h : (Lit.int .i64 a).wf = true) : InR a := by
  simpa [Lit.wf, IntKind.min, IntKind.max, IntKind.signed, IntKind.bits, InR] using h
theorem fo28 : flatOk Try.prog 2 28 = true := by kernel_rfl
theorem ft28 : flatT Try.prog 2 28 = [3, 3, 3, 4, 4, 3, 3, 3] := by kernel_rfl
section
variable {H : Type} {enc : TypeId × Value → H} {w : World} {base : Nat} {spare : Nat → Bool} {held : Bool}
theorem node_read {B : Nat} (n : Nat) (cs : List Value) (y : DataW H × List MemPlace) (h : DataW.trod enc Try.prog w base spare held n 28 cs = some y) (hB : Rows.uptoBulk y.1 ≤ B) : ∃ x : NodeD, cs = x.cells ∧ x.ok := by
  have h1 := leaves fo28 h hB
  rw [ft28] at h1
  match cs, h1 with
  | [c0, c1, c2, c3, c4, c5, c6, c7], ⟨l0, l1, l2, l3, l4, l5, l6, l7, _⟩ =>
    obtain ⟨a0, rfl, w0⟩ := l0.int Try.underlying3
    obtain ⟨a1, rfl, w1⟩ := l1.int Try.underlying3
    obtain ⟨a2, rfl, w2⟩ := l2.int Try.underlying3
    obtain ⟨a3, rfl⟩ := l3.bool Try.underlying4
    obtain ⟨a4, rfl⟩ := l4.bool Try.underlying4
    obtain ⟨a5, rfl, w5⟩ := l5.int Try.underlying3
    obtain ⟨a6, rfl, w6⟩ := l6.int Try.underlying3
    obtain ⟨a7, rfl, w7⟩ := l7.int Try.underlying3
    exact ⟨⟨a0, a1, a2, a3, a4, a5, a6, a7⟩, rfl, inR_of w0, inR_of w6, inR_of w7⟩
end
theorem c28 : Try.prog.cellsOf 28 = 8 := by kernel_rfl

theorem asks_contract (H : Type) (enc : TypeId × Value → H) (W : World) (base : Nat) (args : Array Value) (ds gs : List (DataW H)) (before : List MemPlace)
    (hval : ∀ (j : Nat) t v, Try.f3.params[j]? = some t → args[j]? = some v → Value.okWide Try.prog W .any base t v)
    (hW : DataW.Whole enc Try.prog Try.f3.params.toList Rows.lifeAsksSpec.vars false W args.toList ds gs before) :
    Calls Try.prog 3 args W fun e W' => ∃ v, e = .returned v ∧ Rows.lifeAsksSpec.post enc Try.prog Try.f3 false true false false W args v W' := by
  have hW' := hW
  obtain ⟨p, q, hA0, hV, rfl, hfz, hnd⟩ := hW
  have hA : DataW.TrodAll enc Try.prog W 0 (fun _ => true) true Try.f3.params.toList args.toList ds p := hA0
  rw [Try.params3] at hA hval
  obtain ⟨v0, v1, d0, d1, p0, p1, hargs, rfl, rfl, h0, h1⟩ := trodAll_two hA
  obtain ⟨rfl, rfl⟩ := trodVars_none hV
  subst hargs
  obtain ⟨A, n, cap, rfl⟩ := okWide_slice Try.underlying22 (hval 0 22 v0 rfl rfl)
  obtain ⟨t, rfl, rfl, rfl, wt⟩ := open_int Try.underlying3 (hval 1 3 v1 rfl rfl) h1
  obtain ⟨fuel, hf⟩ := h0
  obtain ⟨A', n', cap', l, e1, hl, hok, _, hm⟩ := Leaf.slice (B := Rows.uptoBulk d0) NodeD.cells NodeD.ok Try.underlying22 c28 (by decide) node_read ⟨fuel, _, hf, Nat.le_refl _⟩
  injection e1 with e1 e2 e3
  subst e1 e2 e3
  refine (asks_any W A n cap l hl hok t (inR_of wt) (by unfold maxLen at hm; omega)).mono fun e W' ⟨he, hx⟩ => ?_
  subst he
  exact ⟨_, rfl, law_post laidOut (by rw [Try.params3]; intro t ht; simp at ht; rcases ht with rfl | rfl <;> exact ⟨by kernel_rfl, of_decide_eq_true (by kernel_rfl)⟩) rfl Try.underlying4 rfl hW' rfl rfl rfl hx.below0⟩

set_option maxRecDepth 100000 in
theorem asks_lifted (os : Os) (started : os.Started) (H : Type) (enc : TypeId × Value → H) :
    ReturnsInHanded {} Try.checked os 3 .any (Rows.lifeAsksSpec.pre6 enc Try.prog Try.f3 Rows.lifeAsksRow.domain false) (Rows.lifeAsksSpec.post enc Try.prog Try.f3 false true false false) := by
  refine returnsInHanded_of_change (C := Try.checked) own_ started (by kernel_rfl) Try.func3
    (ChangeSpec.witness6 (enc := enc) (C := Try.checked) false ⟨#[], #[.slice none 0 0, .int .i64 0], []⟩ 8 (by kernel_rfl) (by kernel_rfl) (by kernel_rfl) (by kernel_rfl)) ?_
  intro W base args ds gs before hval hW _ _
  exact asks_contract H enc W base args ds gs before hval hW

theorem asks_holds : Rows.LifeAsksSaid :=
  OpenClaim.holds_of_wide 3 Try.f3 rfl rfl rfl rfl rfl rfl rfl ⟨rfl, rfl, rfl, rfl, rfl⟩ rfl rfl rfl rfl rfl (by kernel_rfl) Try.func3 (by kernel_rfl)
    (of_decide_eq_true (by kernel_rfl)) (by unfold Func.isWrapper; first | (rw [if_pos (by decide +kernel)]; kernel_rfl) | (rw [if_neg (by decide +kernel)]; exact ⟨rfl, rfl⟩))
    (fun os started H enc _ => asks_lifted os started H enc)
end Go.Proofs.Ytaibifaeljnchaa
