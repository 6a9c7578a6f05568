/- What answers that are handed in read as. -/
import Derived.Test.YtgjabfpkbcdkcaaGreatDoorLs3
import Derived.Test.YtgjabfpkbcdkcaaGreatDoorRead
namespace Go.Proofs.YtgjabfpkbcdkcaaGreatDoor
set_option linter.unusedVariables false
set_option linter.unusedSimpArgs false
set_option maxRecDepth 100000
open Go.RowKit Go.ChangeShapes Go.WideShapes Go.ChangeAt Go.Deep

theorem own_ : ownKnob Tryz.prog.godebug = none := by kernel_rfl
theorem i64_wf {a : Int} (h : (Lit.int .i64 a).wf = true) : I64 a := by
  simpa [Lit.wf, IntKind.min, IntKind.max, IntKind.signed, IntKind.bits, I64] using h
theorem foAns : flatOk Tryz.prog 3 82 = true := by kernel_rfl
theorem ftAns : flatT Tryz.prog 3 82 = [3, 3, 3, 40, 3, 31] := by kernel_rfl
theorem cAns : Tryz.prog.cellsOf 82 = 6 := by kernel_rfl
theorem cAlloc : Tryz.prog.cellsOf 313 = 11 := by kernel_rfl
section
variable {H : Type} {enc : TypeId × Value → H} {w : World} {base : Nat} {spare : Nat → Bool} {held : Bool}
theorem ans_read {B : Nat} (n : Nat) (cs : List Value) (y : DataW H × List MemPlace) (h : DataW.trod enc Tryz.prog w base spare held n 82 cs = some y) (hB : Rows.uptoBulk y.1 ≤ B) : ∃ x : AnsV, cs = x.cells ∧ x.Ok := by
  have h1 := leaves (P := Tryz.prog) (d := 3) foAns h hB
  rw [ftAns] at h1
  match cs, h1 with
  | [c0, c1, c2, c3, c4, c5], ⟨l0, l1, l2, l3, l4, l5, _⟩ =>
    obtain ⟨a0, rfl, w0⟩ := l0.int Tryz.underlying3
    obtain ⟨a1, rfl, w1⟩ := l1.int Tryz.underlying3
    obtain ⟨a2, rfl, w2⟩ := l2.int Tryz.underlying3
    obtain ⟨a3, rfl, w3⟩ := l3.int Tryz.underlying40
    obtain ⟨a4, rfl, w4⟩ := l4.int Tryz.underlying3
    obtain ⟨A, n, c, xs, rfl, _, _, _, hm⟩ := Leaf.slice (fun z : List Value => z) (fun _ => True) Tryz.underlying31 cAlloc (by decide) (fun n cs y h hB => ⟨cs, rfl, trivial⟩) l5
    exact ⟨⟨⟨a0, a1, a2, a3, a4, n⟩, A, c⟩, rfl, i64_wf w0, i64_wf w1, i64_wf w2, i64_wf w3, i64_wf w4, hm⟩
end
theorem answers_open {B : Nat} {H : Type} {enc : TypeId × Value → H} {W : World} {base : Nat} {v0 : Value} {d0 : DataW H} {p0 : List MemPlace} (hv : Value.okWide Tryz.prog W .any base 49 v0) (h0 : DataW.Trod enc Tryz.prog W 0 (fun _ => true) true 49 v0 d0 p0) (hk : Rows.uptoBulk d0 ≤ B) :
    ∃ A n cap, ∃ l : List AnsV, v0 = .slice A n cap ∧ Sl W 6 A n (l.map AnsV.cells) ∧ (∀ x ∈ l, x.Ok) ∧ n + 1 ≤ B := by
  obtain ⟨A, n, cap, rfl⟩ := okWide_slice Tryz.underlying49 hv
  obtain ⟨fuel, hf⟩ := h0
  obtain ⟨A', n', cap', l, e1, hl, hok, hn, hm⟩ := Leaf.slice (B := B) AnsV.cells AnsV.Ok Tryz.underlying49 cAns (by decide) ans_read ⟨fuel, _, hf, hk⟩
  injection e1 with e1 e2 e3
  subst e1 e2 e3
  exact ⟨A, n, cap, l, rfl, hl, hok, hn⟩
end Go.Proofs.YtgjabfpkbcdkcaaGreatDoor
