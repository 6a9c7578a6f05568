/- For every list of beats that holds at most 1048576 values LifePatience returns true, and what it was given reads as it did. -/
import Derived.Test.YtaibifaeljnchaaLifeJ
import Derived.Test.YtaibifaeljnchaaLifeR
namespace Go.Proofs.Ytaibifaeljnchaa
set_option linter.unusedVariables false
open Go.RowKit Go.ChangeShapes Go.WideShapes Go.ChangeAt

theorem fo58 : flatOk Try.prog 2 58 = true := by kernel_rfl
theorem ft58 : flatT Try.prog 2 58 = [4, 3, 22, 32] := by kernel_rfl
theorem c58 : Try.prog.cellsOf 58 = 4 := by kernel_rfl
section
variable {H : Type} {enc : TypeId × Value → H} {w : World} {base : Nat} {spare : Nat → Bool} {held : Bool}
theorem beat_read (n : Nat) (cs : List Value) (y : DataW H × List MemPlace) (h : DataW.trod enc Try.prog w base spare held n 58 cs = some y) (hB : Rows.uptoBulk y.1 ≤ 1048576) : ∃ x : BeatD, cs = x.cells ∧ x.ok w := by
  have h1 := leaves fo58 h hB
  rw [ft58] at h1
  match cs, h1 with
  | [c0, c1, c2, c3], ⟨l0, l1, l2, l3, _⟩ =>
    obtain ⟨a0, rfl⟩ := l0.bool Try.underlying4
    obtain ⟨a1, rfl, w1⟩ := l1.int Try.underlying3
    obtain ⟨A1, n1, c1, ns, rfl, hn, hnok, hn1, _⟩ := Leaf.slice NodeD.cells NodeD.ok Try.underlying22 c28 (by decide) node_read l2
    obtain ⟨A2, n2, c2, ds, rfl, hd, hdok, hd1, _⟩ := Leaf.slice DeployD.cells DeployD.ok Try.underlying32 c71 (by decide) deploy_read l3
    exact ⟨⟨a0, a1, A1, n1, c1, ns, A2, n2, c2, ds⟩, rfl, ⟨inR_of w1, hn, hd, hnok, hdok, by simp only; omega, by simp only; omega⟩⟩
end

/-- what the one argument gives -/
theorem beats_open {H : Type} {enc : TypeId × Value → H} {W : World} {base : Nat} {v0 : Value} {d0 : DataW H} {p0 : List MemPlace} (hv : Value.okWide Try.prog W .any base 52 v0) (h0 : DataW.Trod enc Try.prog W 0 (fun _ => true) true 52 v0 d0 p0) (hk : Rows.uptoBulk d0 ≤ 1048576) :
    ∃ A n cap, ∃ l : List BeatD, v0 = .slice A n cap ∧ Sl W 4 A n (l.map BeatD.cells) ∧ (∀ x ∈ l, x.ok W) ∧ n ≤ 1048576 := by
  obtain ⟨A, n, cap, rfl⟩ := okWide_slice Try.underlying52 hv
  obtain ⟨fuel, hf⟩ := h0
  obtain ⟨A', n', cap', l, e1, hl, hok, hn, hm⟩ := Leaf.slice (B := 1048576) BeatD.cells (BeatD.ok W) Try.underlying52 c58 (by decide) beat_read ⟨fuel, _, hf, hk⟩
  injection e1 with e1 e2 e3
  subst e1 e2 e3
  exact ⟨A, n, cap, l, rfl, hl, hok, by omega⟩

theorem patience_contract (H : Type) (enc : TypeId × Value → H) (W : World) (base : Nat) (args : Array Value) (ds gs : List (DataW H)) (before : List MemPlace)
    (hval : ∀ (j : Nat) t v, Try.f5.params[j]? = some t → args[j]? = some v → Value.okWide Try.prog W .any base t v)
    (hW : DataW.Whole enc Try.prog Try.f5.params.toList Rows.lifePatienceSpec.vars false W args.toList ds gs before) (hk : Rows.uptoSmall H (ds ++ gs) = true) :
    Calls Try.prog 5 args W fun e W' => ∃ v, e = .returned v ∧ Rows.lifePatienceSpec.post enc Try.prog Try.f5 false true false false W args v W' := by
  have hW' := hW
  obtain ⟨p, q, hA0, hV, rfl, hfz, hnd⟩ := hW
  have hA : DataW.TrodAll enc Try.prog W 0 (fun _ => true) true Try.f5.params.toList args.toList ds p := hA0
  rw [Try.params5] at hA hval
  obtain ⟨v0, d0, hargs, rfl, h0⟩ := trodAll_one hA
  obtain ⟨rfl, rfl⟩ := trodVars_none hV
  subst hargs
  have hk' := of_decide_eq_true hk
  simp only [List.append_nil, Rows.uptoBulkAll] at hk'
  obtain ⟨A, n, cap, l, rfl, hl, hok, hn⟩ := beats_open (hval 0 52 v0 rfl rfl) h0 (by omega)
  refine (patience_any W A n cap l hl hok hn).mono fun e W' ⟨he, hx⟩ => ?_
  subst he
  exact ⟨_, rfl, law_post laidOut (by rw [Try.params5]; intro t ht; simp at ht; subst ht; exact ⟨by kernel_rfl, of_decide_eq_true (by kernel_rfl)⟩) rfl Try.underlying4 rfl hW' rfl rfl rfl hx.below0⟩

set_option maxRecDepth 100000 in
theorem patience_lifted (os : Os) (started : os.Started) (H : Type) (enc : TypeId × Value → H) (F : Stop.Interp) :
    ReturnsInHanded {} Try.checked os 5 .any ((Rows.OpenSpec.upto Rows.lifePatienceSpec).pre6 enc Try.prog Try.f5 Rows.lifePatienceUptoRow.domain false) (((Rows.OpenSpec.upto Rows.lifePatienceSpec).at F).post enc Try.prog Try.f5 false true false false) := by
  refine returnsInHanded_of_cond (C := Try.checked) (s := Rows.OpenSpec.upto Rows.lifePatienceSpec) (k := Rows.uptoSmall) rfl own_ started (by kernel_rfl) Try.func5
    (OpenSpec.witness (enc := enc) (C := Try.checked) (s := Rows.OpenSpec.upto Rows.lifePatienceSpec) (k := Rows.uptoSmall) rfl false ⟨#[], #[.slice none 0 0], []⟩ 8 (by kernel_rfl) (by kernel_rfl) (by kernel_rfl)
      (x := ([.nil], [], [])) (by kernel_rfl) rfl (by kernel_rfl)) ?_
  intro W base args ds gs before hval hW _ hk _
  exact patience_contract H enc W base args ds gs before hval hW hk

theorem patience_holds : Rows.LifePatienceUptoSaid :=
  OpenClaim.holds_of_cond 5 Try.f5 rfl rfl rfl rfl rfl rfl rfl ⟨rfl, rfl, rfl, rfl, rfl⟩ rfl rfl rfl rfl rfl (by kernel_rfl) Try.func5 (by kernel_rfl)
    (of_decide_eq_true (by kernel_rfl)) (by unfold Func.isWrapper; first | (rw [if_pos (by decide +kernel)]; kernel_rfl) | (rw [if_neg (by decide +kernel)]; exact ⟨rfl, rfl⟩))
    (fun os started H enc _ F => patience_lifted os started H enc F)
end Go.Proofs.Ytaibifaeljnchaa
