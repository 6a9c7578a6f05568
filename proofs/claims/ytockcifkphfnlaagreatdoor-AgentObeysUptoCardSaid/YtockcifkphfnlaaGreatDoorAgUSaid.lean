/- For every input of bulk at most 1048576 AgentObeys returns true, and what it was given reads as it did: the card. -/
import Derived.Test.YtockcifkphfnlaaGreatDoorAgU
import Derived.Test.YtockcifkphfnlaaGreatDoorAgC
import Derived.Test.YtockcifkphfnlaaGreatDoorCards
import Derived.Test.YtockcifkphfnlaaGreatDoorTie
import Derived.OpenShut
import Derived.Deep.DeepHandedRow
import Derived.Lib.LaidTab
namespace Go.Proofs.YtockcifkphfnlaaGreatDoor
set_option linter.unusedVariables false
open Go.RowKit Go.ChangeShapes Go.WideShapes Go.ChangeAt

set_option maxRecDepth 100000 in
theorem agentObeys_contract (H : Type) (enc : TypeId × Value → H) (W : World) (base : Nat) (args : Array Value) (ds gs : List (DataW H)) (before : List MemPlace)
    (hval : ∀ (j : Nat) t v, Tryz.f4.params[j]? = some t → args[j]? = some v → Value.okWide Tryz.prog W .any base t v)
    (hW : DataW.Whole enc Tryz.prog Tryz.f4.params.toList Rows.agentObeysSpec.vars false W args.toList ds gs before) (hk : Rows.uptoSmall H (ds ++ gs) = true) (htab : HTab W) :
    Calls Tryz.prog 4 args W fun e W' => ∃ v, e = .returned v ∧ Rows.agentObeysSpec.post enc Tryz.prog Tryz.f4 false true false false W args v W' := by
  have hW' := hW
  obtain ⟨p, q, hA0, hV, rfl, hfz, hnd⟩ := hW
  have hA : DataW.TrodAll enc Tryz.prog W 0 (fun _ => true) true Tryz.f4.params.toList args.toList ds p := hA0
  rw [Tryz.params4] at hA hval
  obtain ⟨v0, v1, d0, d1, p0, p1, hargs, rfl, rfl, h0, h1⟩ := trodAll_two hA
  obtain ⟨rfl, rfl⟩ := trodVars_none hV
  subst hargs
  have hk' := of_decide_eq_true hk
  simp only [List.append_nil, Rows.uptoBulkAll] at hk'
  have hb0 := bulk_one d0
  have hb1 := bulk_one d1
  obtain ⟨A1, n1, cap1, l1, rfl, hl1, hok1, hn1⟩ := allocs_open (B := 1048575) (hval 1 43 v1 rfl rfl) h1 (by omega)
  obtain ⟨A0, n0, cap0, l0, rfl, hl0, hok0, hn0⟩ := allocs_open (B := 1048575) (hval 0 43 v0 rfl rfl) h0 (by omega)
  refine (obeys_law A0 n0 cap0 l0 A1 n1 cap1 l1 W htab hl0 (by omega) hok0 hl1 (by omega) hok1).mono fun e W' ⟨he, hx⟩ => ?_
  subst he
  exact ⟨_, rfl, law_post laidOut (by rw [Tryz.params4]; intro t ht; simp at ht; rcases ht with rfl | rfl <;> exact ⟨by kernel_rfl, of_decide_eq_true (by kernel_rfl)⟩) rfl Tryz.underlying4 rfl hW' rfl rfl rfl hx.below0⟩

theorem agentObeys_met (os : Os) : laidMet Tryz.prog Rows.agentObeysUptoRow.laid ((laidWorld os).forCall (fun _ _ => 0) ⟨#[], #[.slice none 0 0, .slice none 0 0], []⟩).memory :=
  laidMet_of_run' 8 (by kernel_rfl) (by kernel_rfl)
theorem agentObeys_reads (os : Os) {H : Type} (enc : TypeId × Value → H) : ∃ places, DataW.whole enc Tryz.prog ((laidWorld os).forCall (fun _ _ => 0) ⟨#[], #[.slice none 0 0, .slice none 0 0], []⟩).memory Tryz.f4.params.toList Rows.agentObeysSpec.vars false (#[.slice none 0 0, .slice none 0 0] : Array Value).toList 8 = some ([.nil, .nil], [], places) :=
  ⟨[], by kernel_rfl⟩

set_option maxRecDepth 100000 in
theorem agentObeys_lifted (os : Os) (started : os.Started) (H : Type) (enc : TypeId × Value → H) (F : Stop.Interp) :
    ReturnsInHanded {} Tryz.checked os 4 .any ((Rows.OpenSpec.upto Rows.agentObeysSpec).preRow enc Tryz.prog Tryz.f4 Rows.agentObeysUptoRow.domain false Rows.agentObeysUptoRow.laid) (((Rows.OpenSpec.upto Rows.agentObeysSpec).at F).post enc Tryz.prog Tryz.f4 false true false false) := by
  obtain ⟨places, hx⟩ := agentObeys_reads os enc
  refine returnsInHanded_of_row (C := Tryz.checked) (s := Rows.OpenSpec.upto Rows.agentObeysSpec) own_ started (by kernel_rfl) Tryz.func4
    (witness_row_at (enc := enc) (C := Tryz.checked) false (laidWorld os) #[.slice none 0 0, .slice none 0 0] rfl (by kernel_rfl) (by kernel_rfl) (by kernel_rfl)
      (OpenSpec.preRow_of_cond 8 hx (by kernel_rfl) (fun k hk => by cases hk; kernel_rfl) (by kernel_rfl) (agentObeys_met os))) ?_
  intro W base args ds gs before hval hW _ hcond _ hL _ _
  exact agentObeys_contract H enc W base args ds gs before hval hW (hcond _ rfl) (htab_of hL)

theorem agentObeys_said : Rows.AgentObeysUptoSaid :=
  OpenClaim.holds_of_cond 4 Tryz.f4 rfl rfl rfl rfl rfl rfl rfl ⟨rfl, rfl, rfl, rfl, rfl⟩ rfl rfl rfl rfl rfl (by kernel_rfl) Tryz.func4 (by kernel_rfl)
    (of_decide_eq_true (by kernel_rfl)) (by unfold Func.isWrapper; first | (rw [if_pos (by decide +kernel)]; kernel_rfl) | (rw [if_neg (by decide +kernel)]; exact ⟨rfl, rfl⟩))
    (fun os started H enc _ F => by rw [OpenClaim.pre_eq_preRow]; exact agentObeys_lifted os started H enc F)
theorem agentObeys_plain (f : FuncId) (fn : Func) (hf : Tryz.pinned.checked.prog.funcNamed "coxswain/coxswainlaw17.AgentObeys" = some f) (hfn : Tryz.pinned.checked.prog.funcs[f]? = some fn) :
    true = Tryz.pinned.checked.prog.looks [] ∧ ∀ (j : Nat) t, fn.params[j]? = some t → Tryz.pinned.checked.prog.wantsStandIn t = false := by
  obtain rfl : f = 4 := Option.some.inj ((show Tryz.prog.funcNamed "coxswain/coxswainlaw17.AgentObeys" = some 4 by kernel_rfl).symm.trans hf) |>.symm
  obtain rfl : fn = Tryz.f4 := (Option.some.inj (Tryz.func4.symm.trans hfn)).symm
  refine ⟨by kernel_rfl, fun j t ht => ?_⟩
  rw [Tryz.params4] at ht
  have hm := Array.mem_of_getElem? ht
  simp at hm
  rcases hm with rfl | rfl <;> (show Tryz.prog.wantsStandIn _ = false; kernel_rfl)
theorem agentObeys_holds : Rows.AgentObeysUptoCardSaid :=
  Claim7.holds_tied_plain_at .later [] _ _ _ _ agentObeys_said (fun _ h => by cases h) (by kernel_rfl) (fun _ h => by cases h) agentObeysUpto_row_tie rfl ⟨rfl, rfl⟩ (by kernel_rfl) rfl agentObeys_plain (by kernel_rfl)
end Go.Proofs.YtockcifkphfnlaaGreatDoor
