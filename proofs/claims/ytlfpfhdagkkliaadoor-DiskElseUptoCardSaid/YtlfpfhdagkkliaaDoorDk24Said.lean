/- For every input of bulk at most 1048576 DiskElse returns true, and what it was given reads as it did: the card. -/
import Derived.Test.YtlfpfhdagkkliaaDoorDk24
import Derived.Test.YtlfpfhdagkkliaaDoorDkRd
import Derived.Test.YtlfpfhdagkkliaaDoorCards
import Derived.Test.YtlfpfhdagkkliaaDoorTie
import Derived.OpenShut
import Derived.Deep.DeepHandedRow
import Derived.Lib.LaidTab
namespace Go.Proofs.YtlfpfhdagkkliaaDoor
set_option linter.unusedVariables false
open Go.RowKit Go.ChangeShapes Go.WideShapes Go.ChangeAt

set_option maxRecDepth 100000 in
theorem diskElse_contract (H : Type) (enc : TypeId × Value → H) (W : World) (base : Nat) (args : Array Value) (ds gs : List (DataW H)) (before : List MemPlace)
    (hval : ∀ (j : Nat) t v, Tryd.f7.params[j]? = some t → args[j]? = some v → Value.okWide Tryd.prog W .any base t v)
    (hW : DataW.Whole enc Tryd.prog Tryd.f7.params.toList Rows.diskElseSpec.vars false W args.toList ds gs before) (hk : Rows.uptoSmall H (ds ++ gs) = true) :
    Calls Tryd.prog 7 args W fun e W' => ∃ v, e = .returned v ∧ Rows.diskElseSpec.post enc Tryd.prog Tryd.f7 false true false false W args v W' := by
  have hW' := hW
  obtain ⟨p, q, hA0, hV, rfl, hfz, hnd⟩ := hW
  have hA : DataW.TrodAll enc Tryd.prog W 0 (fun _ => true) true Tryd.f7.params.toList args.toList ds p := hA0
  rw [Tryd.params7] at hA hval
  obtain ⟨v0, v1, d0, d1, p0, p1, hargs, rfl, rfl, h0, h1⟩ := trodAll_two hA
  obtain ⟨rfl, rfl⟩ := trodVars_none hV
  subst hargs
  have hk' := of_decide_eq_true hk
  simp only [List.append_nil, Rows.uptoBulkAll] at hk'
  have hb0 := bulk_one d0
  have hb1 := bulk_one d1
  obtain ⟨x1, rfl, ho1⟩ := op_open (hval 1 31 v1 rfl rfl) h1 (by omega)
  obtain ⟨A0, n0, cap0, l0, rfl, hl0, hok0, hn0⟩ := ops_open (B := 1048575) (by decide) (hval 0 22 v0 rfl rfl) h0 (by omega)
  refine (else_law A0 n0 cap0 l0 x1 W hl0 (by omega) hok0 ho1).mono fun e W' ⟨he, hx⟩ => ?_
  subst he
  exact ⟨_, rfl, law_post laidOut (by rw [Tryd.params7]; intro t ht; simp at ht; rcases ht with rfl | rfl <;> exact ⟨by kernel_rfl, of_decide_eq_true (by kernel_rfl)⟩) rfl Tryd.underlying4 rfl hW' rfl rfl rfl hx.below0⟩

theorem diskElse_met (os : Os) : laidMet Tryd.prog Rows.diskElseUptoRow.laid ((laidWorld os).forCall (fun _ _ => 0) ⟨#[], #[.slice none 0 0, .agg #[.int .i64 0, strV [], strV [], .slice none 0 0, .int .i64 0]], []⟩).memory :=
  laidMet_of_run' 8 (by kernel_rfl) (by kernel_rfl)
theorem diskElse_reads (os : Os) {H : Type} (enc : TypeId × Value → H) : ∃ places, DataW.whole enc Tryd.prog ((laidWorld os).forCall (fun _ _ => 0) ⟨#[], #[.slice none 0 0, .agg #[.int .i64 0, strV [], strV [], .slice none 0 0, .int .i64 0]], []⟩).memory Tryd.f7.params.toList Rows.diskElseSpec.vars false (#[.slice none 0 0, .agg #[.int .i64 0, strV [], strV [], .slice none 0 0, .int .i64 0]] : Array Value).toList 8 = some ([.nil, .agg [.lit (.int .i64 0), .lit (.string []), .lit (.string []), .nil, .lit (.int .i64 0)]], [], places) :=
  ⟨[], by kernel_rfl⟩

set_option maxRecDepth 100000 in
theorem diskElse_lifted (os : Os) (started : os.Started) (H : Type) (enc : TypeId × Value → H) (F : Stop.Interp) :
    ReturnsInHanded {} Tryd.checked os 7 .any ((Rows.OpenSpec.upto Rows.diskElseSpec).preRow enc Tryd.prog Tryd.f7 Rows.diskElseUptoRow.domain false Rows.diskElseUptoRow.laid) (((Rows.OpenSpec.upto Rows.diskElseSpec).at F).post enc Tryd.prog Tryd.f7 false true false false) := by
  obtain ⟨places, hx⟩ := diskElse_reads os enc
  refine returnsInHanded_of_row (C := Tryd.checked) (s := Rows.OpenSpec.upto Rows.diskElseSpec) own_ started (by kernel_rfl) Tryd.func7
    (witness_row_at (enc := enc) (C := Tryd.checked) false (laidWorld os) #[.slice none 0 0, .agg #[.int .i64 0, strV [], strV [], .slice none 0 0, .int .i64 0]] rfl (by kernel_rfl) (by kernel_rfl) (by kernel_rfl)
      (OpenSpec.preRow_of_cond 8 hx (by kernel_rfl) (fun k hk => by cases hk; kernel_rfl) (by kernel_rfl) (diskElse_met os))) ?_
  intro W base args ds gs before hval hW _ hcond _ hL _ _
  exact diskElse_contract H enc W base args ds gs before hval hW (hcond _ rfl)

theorem diskElse_said : Rows.DiskElseUptoSaid :=
  OpenClaim.holds_of_cond 7 Tryd.f7 rfl rfl rfl rfl rfl rfl rfl ⟨rfl, rfl, rfl, rfl, rfl⟩ rfl rfl rfl rfl rfl (by kernel_rfl) Tryd.func7 (by kernel_rfl)
    (of_decide_eq_true (by kernel_rfl)) (by unfold Func.isWrapper; first | (rw [if_pos (by decide +kernel)]; kernel_rfl) | (rw [if_neg (by decide +kernel)]; exact ⟨rfl, rfl⟩))
    (fun os started H enc _ F => by rw [OpenClaim.pre_eq_preRow]; exact diskElse_lifted os started H enc F)
theorem diskElse_plain (f : FuncId) (fn : Func) (hf : Tryd.pinned.checked.prog.funcNamed "coxswain/coxswainlaw02.DiskElse" = some f) (hfn : Tryd.pinned.checked.prog.funcs[f]? = some fn) :
    true = Tryd.pinned.checked.prog.looks [] ∧ ∀ (j : Nat) t, fn.params[j]? = some t → Tryd.pinned.checked.prog.wantsStandIn t = false := by
  obtain rfl : f = 7 := Option.some.inj ((show Tryd.prog.funcNamed "coxswain/coxswainlaw02.DiskElse" = some 7 by kernel_rfl).symm.trans hf) |>.symm
  obtain rfl : fn = Tryd.f7 := (Option.some.inj (Tryd.func7.symm.trans hfn)).symm
  refine ⟨by kernel_rfl, fun j t ht => ?_⟩
  rw [Tryd.params7] at ht
  have hm := Array.mem_of_getElem? ht
  simp at hm
  rcases hm with rfl | rfl <;> (show Tryd.prog.wantsStandIn _ = false; kernel_rfl)
theorem diskElse_holds : Rows.DiskElseUptoCardSaid :=
  Claim7.holds_tied_plain_at .later [] _ _ _ _ diskElse_said (fun _ h => by cases h) (by kernel_rfl) (fun _ h => by cases h) diskElseUpto_row_tie rfl ⟨rfl, rfl⟩ (by kernel_rfl) rfl diskElse_plain (by kernel_rfl)
end Go.Proofs.YtlfpfhdagkkliaaDoor
