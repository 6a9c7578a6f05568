/-
  No cell of these rows narrows 'for every input' (looked for: loops, veiled, ifaces, maps, wideKeys, modest, calm, conditions, laid).
  DERIVED. THE GIVEN ROWS OF THIS SEAT. 11 by the template 'for every input the law returns true; each argument reads behind the call as it read before'; 0 by the template 'total and deterministic' (their statements: YtccekmeifanipaaGreatTotals.lean).
  GIVEN WITH THE SEED: the statements are not yours to turn. If you find one false, say at which input.
  Laid BY PROGRAM, IN A SANDBOX (cutbox-rows.mjs): the forced cells as the released guide's own fill.sh prints them over the translation 28e4f49ec91bb524… (all of the seat's roots in one cut). By AI agents, Wed Nov 11 2026. No macro, syntax, notation, axiom, sorry.
-/
import Derived.Test.YtccekmeifanipaaGreatChecked
import GoSem.Claim
import GoSem.ClaimJoined
import GoSem.ClaimMapViews
import Derived.JoinedTies
import Derived.KernelRfl
namespace Go.Proofs.YtccekmeifanipaaGreat
/- THE CELL 'sum', in the pinned program and in every row, IS THE sha256 OF THE DUMP (.gsa) THAT YtccekmeifanipaaGreatProg.lean LOADS. Nothing in Lean hashes anything: it is a label: what it is worth is what the hold of that sum in a sandbox is worth. -/
noncomputable def Tryz.pinned : Pinned := { name := "ytccekmeifanipaagreat", sum := "28e4f49ec91bb5245e3b4c4d2ff6733a90aed7d619940cb8a62a8268eb152f3a", checked := Tryz.checked }
namespace Rows
def none {H : Type} : Left H := { results := [], args := [] }

/-- 'coxswainlaw11.FsmRoom': WHATEVER THE INPUT: true; the input reads as it did. -/
def fsmRoomSpec : ChangeSpec := { name := "fsmRoom", fn := fun _ => fun
  | [d] => { results := [.lit (.bool true)], args := [d] }
  | _ => none }
def fsmRoomRow : OpenClaim := { program := "ytccekmeifanipaagreat", sum := "28e4f49ec91bb5245e3b4c4d2ff6733a90aed7d619940cb8a62a8268eb152f3a", func := "coxswain/coxswainlaw11.FsmRoom", spec := "fsmRoom", inPlace := ["slices.overlaps[coxswain/api.Job]", "slices.overlaps[coxswain/api.Deploy]", "slices.overlaps[coxswain/api.Eval]", "slices.overlaps[coxswain/api.Node]", "slices.overlaps[coxswain/api.Seen]"], unfollowed := true, recurses := true, apart := false }
def FsmRoomSaid : Prop := fsmRoomRow.holds Tryz.pinned (OpenSpec.ofChange fsmRoomSpec)

/-- ITS FALSE NEIGHBOUR: 'it returns false'. Refute it at one input. -/
def fsmRoomWrong : ChangeSpec := { name := "fsmRoom", fn := fun _ => fun
  | [d] => { results := [.lit (.bool false)], args := [d] }
  | _ => none }
def FsmRoomWrongFalsely : Prop := fsmRoomRow.holds Tryz.pinned (OpenSpec.ofChange fsmRoomWrong)

/-- 'coxswainlaw11.FsmSlots': WHATEVER THE INPUT: true; the input reads as it did. -/
def fsmSlotsSpec : ChangeSpec := { name := "fsmSlots", fn := fun _ => fun
  | [d] => { results := [.lit (.bool true)], args := [d] }
  | _ => none }
def fsmSlotsRow : OpenClaim := { program := "ytccekmeifanipaagreat", sum := "28e4f49ec91bb5245e3b4c4d2ff6733a90aed7d619940cb8a62a8268eb152f3a", func := "coxswain/coxswainlaw11.FsmSlots", spec := "fsmSlots", inPlace := ["slices.overlaps[coxswain/api.Job]", "slices.overlaps[coxswain/api.Deploy]", "slices.overlaps[coxswain/api.Eval]", "slices.overlaps[coxswain/api.Node]", "slices.overlaps[coxswain/api.Seen]"], unfollowed := true, recurses := true, apart := false }
def FsmSlotsSaid : Prop := fsmSlotsRow.holds Tryz.pinned (OpenSpec.ofChange fsmSlotsSpec)

/-- ITS FALSE NEIGHBOUR: 'it returns false'. Refute it at one input. -/
def fsmSlotsWrong : ChangeSpec := { name := "fsmSlots", fn := fun _ => fun
  | [d] => { results := [.lit (.bool false)], args := [d] }
  | _ => none }
def FsmSlotsWrongFalsely : Prop := fsmSlotsRow.holds Tryz.pinned (OpenSpec.ofChange fsmSlotsWrong)

/-- 'coxswainlaw11.FsmOnce': WHATEVER THE INPUT: true; the input reads as it did. -/
def fsmOnceSpec : ChangeSpec := { name := "fsmOnce", fn := fun _ => fun
  | [d] => { results := [.lit (.bool true)], args := [d] }
  | _ => none }
def fsmOnceRow : OpenClaim := { program := "ytccekmeifanipaagreat", sum := "28e4f49ec91bb5245e3b4c4d2ff6733a90aed7d619940cb8a62a8268eb152f3a", func := "coxswain/coxswainlaw11.FsmOnce", spec := "fsmOnce", inPlace := ["slices.overlaps[coxswain/api.Job]", "slices.overlaps[coxswain/api.Deploy]", "slices.overlaps[coxswain/api.Eval]", "slices.overlaps[coxswain/api.Node]", "slices.overlaps[coxswain/api.Seen]"], unfollowed := true, recurses := true, apart := false }
def FsmOnceSaid : Prop := fsmOnceRow.holds Tryz.pinned (OpenSpec.ofChange fsmOnceSpec)

/-- ITS FALSE NEIGHBOUR: 'it returns false'. Refute it at one input. -/
def fsmOnceWrong : ChangeSpec := { name := "fsmOnce", fn := fun _ => fun
  | [d] => { results := [.lit (.bool false)], args := [d] }
  | _ => none }
def FsmOnceWrongFalsely : Prop := fsmOnceRow.holds Tryz.pinned (OpenSpec.ofChange fsmOnceWrong)

/-- 'coxswainlaw11.FsmFenced': WHATEVER THE INPUT: true; the input reads as it did. -/
def fsmFencedSpec : ChangeSpec := { name := "fsmFenced", fn := fun _ => fun
  | [d1, d2, d3] => { results := [.lit (.bool true)], args := [d1, d2, d3] }
  | _ => none }
def fsmFencedRow : OpenClaim := { program := "ytccekmeifanipaagreat", sum := "28e4f49ec91bb5245e3b4c4d2ff6733a90aed7d619940cb8a62a8268eb152f3a", func := "coxswain/coxswainlaw11.FsmFenced", spec := "fsmFenced", inPlace := ["slices.overlaps[coxswain/api.Job]", "slices.overlaps[coxswain/api.Deploy]", "slices.overlaps[coxswain/api.Eval]", "slices.overlaps[coxswain/api.Node]", "slices.overlaps[coxswain/api.Seen]"], unfollowed := true, recurses := true, apart := false }
def FsmFencedSaid : Prop := fsmFencedRow.holds Tryz.pinned (OpenSpec.ofChange fsmFencedSpec)

/-- ITS FALSE NEIGHBOUR: 'it returns false'. Refute it at one input. -/
def fsmFencedWrong : ChangeSpec := { name := "fsmFenced", fn := fun _ => fun
  | [d1, d2, d3] => { results := [.lit (.bool false)], args := [d1, d2, d3] }
  | _ => none }
def FsmFencedWrongFalsely : Prop := fsmFencedRow.holds Tryz.pinned (OpenSpec.ofChange fsmFencedWrong)

/-- 'coxswainlaw11.FsmOwns': WHATEVER THE INPUT: true; the input reads as it did. -/
def fsmOwnsSpec : ChangeSpec := { name := "fsmOwns", fn := fun _ => fun
  | [d1, d2] => { results := [.lit (.bool true)], args := [d1, d2] }
  | _ => none }
def fsmOwnsRow : OpenClaim := { program := "ytccekmeifanipaagreat", sum := "28e4f49ec91bb5245e3b4c4d2ff6733a90aed7d619940cb8a62a8268eb152f3a", func := "coxswain/coxswainlaw11.FsmOwns", spec := "fsmOwns", inPlace := ["slices.overlaps[coxswain/api.Job]", "slices.overlaps[coxswain/api.Deploy]", "slices.overlaps[coxswain/api.Eval]", "slices.overlaps[coxswain/api.Node]", "slices.overlaps[coxswain/api.Seen]"], unfollowed := true, recurses := true, apart := false }
def FsmOwnsSaid : Prop := fsmOwnsRow.holds Tryz.pinned (OpenSpec.ofChange fsmOwnsSpec)

/-- ITS FALSE NEIGHBOUR: 'it returns false'. Refute it at one input. -/
def fsmOwnsWrong : ChangeSpec := { name := "fsmOwns", fn := fun _ => fun
  | [d1, d2] => { results := [.lit (.bool false)], args := [d1, d2] }
  | _ => none }
def FsmOwnsWrongFalsely : Prop := fsmOwnsRow.holds Tryz.pinned (OpenSpec.ofChange fsmOwnsWrong)

/-- 'coxswainlaw11.FsmRises': WHATEVER THE INPUT: true; the input reads as it did. -/
def fsmRisesSpec : ChangeSpec := { name := "fsmRises", fn := fun _ => fun
  | [d] => { results := [.lit (.bool true)], args := [d] }
  | _ => none }
def fsmRisesRow : OpenClaim := { program := "ytccekmeifanipaagreat", sum := "28e4f49ec91bb5245e3b4c4d2ff6733a90aed7d619940cb8a62a8268eb152f3a", func := "coxswain/coxswainlaw11.FsmRises", spec := "fsmRises", inPlace := ["slices.overlaps[coxswain/api.Job]", "slices.overlaps[coxswain/api.Deploy]", "slices.overlaps[coxswain/api.Eval]", "slices.overlaps[coxswain/api.Node]", "slices.overlaps[coxswain/api.Seen]"], unfollowed := true, recurses := true, apart := false }
def FsmRisesSaid : Prop := fsmRisesRow.holds Tryz.pinned (OpenSpec.ofChange fsmRisesSpec)

/-- ITS FALSE NEIGHBOUR: 'it returns false'. Refute it at one input. -/
def fsmRisesWrong : ChangeSpec := { name := "fsmRises", fn := fun _ => fun
  | [d] => { results := [.lit (.bool false)], args := [d] }
  | _ => none }
def FsmRisesWrongFalsely : Prop := fsmRisesRow.holds Tryz.pinned (OpenSpec.ofChange fsmRisesWrong)

/-- 'coxswainlaw11.FsmLives': WHATEVER THE INPUT: true; the input reads as it did. -/
def fsmLivesSpec : ChangeSpec := { name := "fsmLives", fn := fun _ => fun
  | [d] => { results := [.lit (.bool true)], args := [d] }
  | _ => none }
def fsmLivesRow : OpenClaim := { program := "ytccekmeifanipaagreat", sum := "28e4f49ec91bb5245e3b4c4d2ff6733a90aed7d619940cb8a62a8268eb152f3a", func := "coxswain/coxswainlaw11.FsmLives", spec := "fsmLives", inPlace := ["slices.overlaps[coxswain/api.Job]", "slices.overlaps[coxswain/api.Deploy]", "slices.overlaps[coxswain/api.Eval]", "slices.overlaps[coxswain/api.Node]", "slices.overlaps[coxswain/api.Seen]"], unfollowed := true, recurses := true, apart := false }
def FsmLivesSaid : Prop := fsmLivesRow.holds Tryz.pinned (OpenSpec.ofChange fsmLivesSpec)

/-- ITS FALSE NEIGHBOUR: 'it returns false'. Refute it at one input. -/
def fsmLivesWrong : ChangeSpec := { name := "fsmLives", fn := fun _ => fun
  | [d] => { results := [.lit (.bool false)], args := [d] }
  | _ => none }
def FsmLivesWrongFalsely : Prop := fsmLivesRow.holds Tryz.pinned (OpenSpec.ofChange fsmLivesWrong)

/-- 'coxswainlaw11.FsmEvals': WHATEVER THE INPUT: true; the input reads as it did. -/
def fsmEvalsSpec : ChangeSpec := { name := "fsmEvals", fn := fun _ => fun
  | [d1, d2] => { results := [.lit (.bool true)], args := [d1, d2] }
  | _ => none }
def fsmEvalsRow : OpenClaim := { program := "ytccekmeifanipaagreat", sum := "28e4f49ec91bb5245e3b4c4d2ff6733a90aed7d619940cb8a62a8268eb152f3a", func := "coxswain/coxswainlaw11.FsmEvals", spec := "fsmEvals", inPlace := ["slices.overlaps[coxswain/api.Job]", "slices.overlaps[coxswain/api.Deploy]", "slices.overlaps[coxswain/api.Eval]", "slices.overlaps[coxswain/api.Node]", "slices.overlaps[coxswain/api.Seen]"], unfollowed := true, recurses := true, apart := false }
def FsmEvalsSaid : Prop := fsmEvalsRow.holds Tryz.pinned (OpenSpec.ofChange fsmEvalsSpec)

/-- ITS FALSE NEIGHBOUR: 'it returns false'. Refute it at one input. -/
def fsmEvalsWrong : ChangeSpec := { name := "fsmEvals", fn := fun _ => fun
  | [d1, d2] => { results := [.lit (.bool false)], args := [d1, d2] }
  | _ => none }
def FsmEvalsWrongFalsely : Prop := fsmEvalsRow.holds Tryz.pinned (OpenSpec.ofChange fsmEvalsWrong)

/-- 'coxswainlaw11.FsmDown': WHATEVER THE INPUT: true; the input reads as it did. -/
def fsmDownSpec : ChangeSpec := { name := "fsmDown", fn := fun _ => fun
  | [d1, d2, d3] => { results := [.lit (.bool true)], args := [d1, d2, d3] }
  | _ => none }
def fsmDownRow : OpenClaim := { program := "ytccekmeifanipaagreat", sum := "28e4f49ec91bb5245e3b4c4d2ff6733a90aed7d619940cb8a62a8268eb152f3a", func := "coxswain/coxswainlaw11.FsmDown", spec := "fsmDown", inPlace := ["slices.overlaps[coxswain/api.Job]", "slices.overlaps[coxswain/api.Deploy]", "slices.overlaps[coxswain/api.Eval]", "slices.overlaps[coxswain/api.Node]", "slices.overlaps[coxswain/api.Seen]"], unfollowed := true, recurses := true, apart := false }
def FsmDownSaid : Prop := fsmDownRow.holds Tryz.pinned (OpenSpec.ofChange fsmDownSpec)

/-- ITS FALSE NEIGHBOUR: 'it returns false'. Refute it at one input. -/
def fsmDownWrong : ChangeSpec := { name := "fsmDown", fn := fun _ => fun
  | [d1, d2, d3] => { results := [.lit (.bool false)], args := [d1, d2, d3] }
  | _ => none }
def FsmDownWrongFalsely : Prop := fsmDownRow.holds Tryz.pinned (OpenSpec.ofChange fsmDownWrong)

/-- 'coxswainlaw11.FsmBatch': WHATEVER THE INPUT: true; the input reads as it did. -/
def fsmBatchSpec : ChangeSpec := { name := "fsmBatch", fn := fun _ => fun
  | [d1, d2] => { results := [.lit (.bool true)], args := [d1, d2] }
  | _ => none }
def fsmBatchRow : OpenClaim := { program := "ytccekmeifanipaagreat", sum := "28e4f49ec91bb5245e3b4c4d2ff6733a90aed7d619940cb8a62a8268eb152f3a", func := "coxswain/coxswainlaw11.FsmBatch", spec := "fsmBatch", inPlace := ["slices.overlaps[coxswain/api.Job]", "slices.overlaps[coxswain/api.Deploy]", "slices.overlaps[coxswain/api.Eval]", "slices.overlaps[coxswain/api.Node]", "slices.overlaps[coxswain/api.Seen]"], unfollowed := true, recurses := true, apart := false }
def FsmBatchSaid : Prop := fsmBatchRow.holds Tryz.pinned (OpenSpec.ofChange fsmBatchSpec)

/-- ITS FALSE NEIGHBOUR: 'it returns false'. Refute it at one input. -/
def fsmBatchWrong : ChangeSpec := { name := "fsmBatch", fn := fun _ => fun
  | [d1, d2] => { results := [.lit (.bool false)], args := [d1, d2] }
  | _ => none }
def FsmBatchWrongFalsely : Prop := fsmBatchRow.holds Tryz.pinned (OpenSpec.ofChange fsmBatchWrong)

/-- 'coxswainlaw11.FsmReverts': WHATEVER THE INPUT: true; the input reads as it did. -/
def fsmRevertsSpec : ChangeSpec := { name := "fsmReverts", fn := fun _ => fun
  | [d1, d2] => { results := [.lit (.bool true)], args := [d1, d2] }
  | _ => none }
def fsmRevertsRow : OpenClaim := { program := "ytccekmeifanipaagreat", sum := "28e4f49ec91bb5245e3b4c4d2ff6733a90aed7d619940cb8a62a8268eb152f3a", func := "coxswain/coxswainlaw11.FsmReverts", spec := "fsmReverts", inPlace := ["slices.overlaps[coxswain/api.Job]", "slices.overlaps[coxswain/api.Deploy]", "slices.overlaps[coxswain/api.Eval]", "slices.overlaps[coxswain/api.Node]", "slices.overlaps[coxswain/api.Seen]"], unfollowed := true, recurses := true, apart := false }
def FsmRevertsSaid : Prop := fsmRevertsRow.holds Tryz.pinned (OpenSpec.ofChange fsmRevertsSpec)

/-- ITS FALSE NEIGHBOUR: 'it returns false'. Refute it at one input. -/
def fsmRevertsWrong : ChangeSpec := { name := "fsmReverts", fn := fun _ => fun
  | [d1, d2] => { results := [.lit (.bool false)], args := [d1, d2] }
  | _ => none }
def FsmRevertsWrongFalsely : Prop := fsmRevertsRow.holds Tryz.pinned (OpenSpec.ofChange fsmRevertsWrong)

/- THE SECOND FORM. 'bulk': how many values and letters a reading holds, each counted each time it is reached (what is shared counts as often as it is met; a slice's spare places count too). A statement '..UptoSaid' is the law's where the arguments, and the package variables that the reading takes, are together of bulk at most 1048576: NARROWER than '..Said'. Prove '..Said' where nothing that the law and all that it calls make is longer than what came in: it says more and counts as full. Else prove '..UptoSaid'. A law counts once. -/
mutual
def uptoBulk {H : Type} : DataW H → Nat
  | .lit (.string bytes) => bytes.length + 1
  | .lit _ => 1
  | .nil => 1
  | .ptr d => uptoBulk d + 1
  | .slice elems spare => uptoBulkAll elems + uptoBulkAll spare + 1
  | .agg parts => uptoBulkAll parts + 1
  | .iface _ d => uptoBulk d + 1
  | .map entries => uptoBulkEntries entries + 1
  | .held _ => 1
def uptoBulkAll {H : Type} : List (DataW H) → Nat
  | [] => 0
  | d :: r => uptoBulk d + uptoBulkAll r
def uptoBulkEntries {H : Type} : List (Lit × DataW H) → Nat
  | [] => 0
  | x :: r => uptoBulkEntry x + uptoBulkEntries r
def uptoBulkEntry {H : Type} : Lit × DataW H → Nat
  | (.string bytes, d) => bytes.length + uptoBulk d + 1
  | (_, d) => uptoBulk d + 1
 end
def uptoSmall : (H : Type) → List (DataW H) → Bool := fun _ ds => decide (uptoBulkAll ds ≤ 1048576)
def OpenSpec.upto (s : _root_.Go.ChangeSpec) : _root_.Go.OpenSpec := { _root_.Go.OpenSpec.ofChange s with cond := some uptoSmall }

/-- 'coxswainlaw11.FsmRoom', WHERE WHAT IT READS IS OF BULK AT MOST 1048576: true; the input reads as it did. -/
def fsmRoomUptoRow : OpenClaim := { program := "ytccekmeifanipaagreat", sum := "28e4f49ec91bb5245e3b4c4d2ff6733a90aed7d619940cb8a62a8268eb152f3a", func := "coxswain/coxswainlaw11.FsmRoom", spec := "fsmRoom", inPlace := ["slices.overlaps[coxswain/api.Job]", "slices.overlaps[coxswain/api.Deploy]", "slices.overlaps[coxswain/api.Eval]", "slices.overlaps[coxswain/api.Node]", "slices.overlaps[coxswain/api.Seen]"], unfollowed := true, recurses := true, apart := false, narrowed := true }
def FsmRoomUptoSaid : Prop := fsmRoomUptoRow.holds Tryz.pinned (OpenSpec.upto fsmRoomSpec)

/-- 'coxswainlaw11.FsmSlots', WHERE WHAT IT READS IS OF BULK AT MOST 1048576: true; the input reads as it did. -/
def fsmSlotsUptoRow : OpenClaim := { program := "ytccekmeifanipaagreat", sum := "28e4f49ec91bb5245e3b4c4d2ff6733a90aed7d619940cb8a62a8268eb152f3a", func := "coxswain/coxswainlaw11.FsmSlots", spec := "fsmSlots", inPlace := ["slices.overlaps[coxswain/api.Job]", "slices.overlaps[coxswain/api.Deploy]", "slices.overlaps[coxswain/api.Eval]", "slices.overlaps[coxswain/api.Node]", "slices.overlaps[coxswain/api.Seen]"], unfollowed := true, recurses := true, apart := false, narrowed := true }
def FsmSlotsUptoSaid : Prop := fsmSlotsUptoRow.holds Tryz.pinned (OpenSpec.upto fsmSlotsSpec)

/-- 'coxswainlaw11.FsmOnce', WHERE WHAT IT READS IS OF BULK AT MOST 1048576: true; the input reads as it did. -/
def fsmOnceUptoRow : OpenClaim := { program := "ytccekmeifanipaagreat", sum := "28e4f49ec91bb5245e3b4c4d2ff6733a90aed7d619940cb8a62a8268eb152f3a", func := "coxswain/coxswainlaw11.FsmOnce", spec := "fsmOnce", inPlace := ["slices.overlaps[coxswain/api.Job]", "slices.overlaps[coxswain/api.Deploy]", "slices.overlaps[coxswain/api.Eval]", "slices.overlaps[coxswain/api.Node]", "slices.overlaps[coxswain/api.Seen]"], unfollowed := true, recurses := true, apart := false, narrowed := true }
def FsmOnceUptoSaid : Prop := fsmOnceUptoRow.holds Tryz.pinned (OpenSpec.upto fsmOnceSpec)

/-- 'coxswainlaw11.FsmFenced', WHERE WHAT IT READS IS OF BULK AT MOST 1048576: true; the input reads as it did. -/
def fsmFencedUptoRow : OpenClaim := { program := "ytccekmeifanipaagreat", sum := "28e4f49ec91bb5245e3b4c4d2ff6733a90aed7d619940cb8a62a8268eb152f3a", func := "coxswain/coxswainlaw11.FsmFenced", spec := "fsmFenced", inPlace := ["slices.overlaps[coxswain/api.Job]", "slices.overlaps[coxswain/api.Deploy]", "slices.overlaps[coxswain/api.Eval]", "slices.overlaps[coxswain/api.Node]", "slices.overlaps[coxswain/api.Seen]"], unfollowed := true, recurses := true, apart := false, narrowed := true }
def FsmFencedUptoSaid : Prop := fsmFencedUptoRow.holds Tryz.pinned (OpenSpec.upto fsmFencedSpec)

/-- 'coxswainlaw11.FsmOwns', WHERE WHAT IT READS IS OF BULK AT MOST 1048576: true; the input reads as it did. -/
def fsmOwnsUptoRow : OpenClaim := { program := "ytccekmeifanipaagreat", sum := "28e4f49ec91bb5245e3b4c4d2ff6733a90aed7d619940cb8a62a8268eb152f3a", func := "coxswain/coxswainlaw11.FsmOwns", spec := "fsmOwns", inPlace := ["slices.overlaps[coxswain/api.Job]", "slices.overlaps[coxswain/api.Deploy]", "slices.overlaps[coxswain/api.Eval]", "slices.overlaps[coxswain/api.Node]", "slices.overlaps[coxswain/api.Seen]"], unfollowed := true, recurses := true, apart := false, narrowed := true }
def FsmOwnsUptoSaid : Prop := fsmOwnsUptoRow.holds Tryz.pinned (OpenSpec.upto fsmOwnsSpec)

/-- 'coxswainlaw11.FsmRises', WHERE WHAT IT READS IS OF BULK AT MOST 1048576: true; the input reads as it did. -/
def fsmRisesUptoRow : OpenClaim := { program := "ytccekmeifanipaagreat", sum := "28e4f49ec91bb5245e3b4c4d2ff6733a90aed7d619940cb8a62a8268eb152f3a", func := "coxswain/coxswainlaw11.FsmRises", spec := "fsmRises", inPlace := ["slices.overlaps[coxswain/api.Job]", "slices.overlaps[coxswain/api.Deploy]", "slices.overlaps[coxswain/api.Eval]", "slices.overlaps[coxswain/api.Node]", "slices.overlaps[coxswain/api.Seen]"], unfollowed := true, recurses := true, apart := false, narrowed := true }
def FsmRisesUptoSaid : Prop := fsmRisesUptoRow.holds Tryz.pinned (OpenSpec.upto fsmRisesSpec)

/-- 'coxswainlaw11.FsmLives', WHERE WHAT IT READS IS OF BULK AT MOST 1048576: true; the input reads as it did. -/
def fsmLivesUptoRow : OpenClaim := { program := "ytccekmeifanipaagreat", sum := "28e4f49ec91bb5245e3b4c4d2ff6733a90aed7d619940cb8a62a8268eb152f3a", func := "coxswain/coxswainlaw11.FsmLives", spec := "fsmLives", inPlace := ["slices.overlaps[coxswain/api.Job]", "slices.overlaps[coxswain/api.Deploy]", "slices.overlaps[coxswain/api.Eval]", "slices.overlaps[coxswain/api.Node]", "slices.overlaps[coxswain/api.Seen]"], unfollowed := true, recurses := true, apart := false, narrowed := true }
def FsmLivesUptoSaid : Prop := fsmLivesUptoRow.holds Tryz.pinned (OpenSpec.upto fsmLivesSpec)

/-- 'coxswainlaw11.FsmEvals', WHERE WHAT IT READS IS OF BULK AT MOST 1048576: true; the input reads as it did. -/
def fsmEvalsUptoRow : OpenClaim := { program := "ytccekmeifanipaagreat", sum := "28e4f49ec91bb5245e3b4c4d2ff6733a90aed7d619940cb8a62a8268eb152f3a", func := "coxswain/coxswainlaw11.FsmEvals", spec := "fsmEvals", inPlace := ["slices.overlaps[coxswain/api.Job]", "slices.overlaps[coxswain/api.Deploy]", "slices.overlaps[coxswain/api.Eval]", "slices.overlaps[coxswain/api.Node]", "slices.overlaps[coxswain/api.Seen]"], unfollowed := true, recurses := true, apart := false, narrowed := true }
def FsmEvalsUptoSaid : Prop := fsmEvalsUptoRow.holds Tryz.pinned (OpenSpec.upto fsmEvalsSpec)

/-- 'coxswainlaw11.FsmDown', WHERE WHAT IT READS IS OF BULK AT MOST 1048576: true; the input reads as it did. -/
def fsmDownUptoRow : OpenClaim := { program := "ytccekmeifanipaagreat", sum := "28e4f49ec91bb5245e3b4c4d2ff6733a90aed7d619940cb8a62a8268eb152f3a", func := "coxswain/coxswainlaw11.FsmDown", spec := "fsmDown", inPlace := ["slices.overlaps[coxswain/api.Job]", "slices.overlaps[coxswain/api.Deploy]", "slices.overlaps[coxswain/api.Eval]", "slices.overlaps[coxswain/api.Node]", "slices.overlaps[coxswain/api.Seen]"], unfollowed := true, recurses := true, apart := false, narrowed := true }
def FsmDownUptoSaid : Prop := fsmDownUptoRow.holds Tryz.pinned (OpenSpec.upto fsmDownSpec)

/-- 'coxswainlaw11.FsmBatch', WHERE WHAT IT READS IS OF BULK AT MOST 1048576: true; the input reads as it did. -/
def fsmBatchUptoRow : OpenClaim := { program := "ytccekmeifanipaagreat", sum := "28e4f49ec91bb5245e3b4c4d2ff6733a90aed7d619940cb8a62a8268eb152f3a", func := "coxswain/coxswainlaw11.FsmBatch", spec := "fsmBatch", inPlace := ["slices.overlaps[coxswain/api.Job]", "slices.overlaps[coxswain/api.Deploy]", "slices.overlaps[coxswain/api.Eval]", "slices.overlaps[coxswain/api.Node]", "slices.overlaps[coxswain/api.Seen]"], unfollowed := true, recurses := true, apart := false, narrowed := true }
def FsmBatchUptoSaid : Prop := fsmBatchUptoRow.holds Tryz.pinned (OpenSpec.upto fsmBatchSpec)

/-- 'coxswainlaw11.FsmReverts', WHERE WHAT IT READS IS OF BULK AT MOST 1048576: true; the input reads as it did. -/
def fsmRevertsUptoRow : OpenClaim := { program := "ytccekmeifanipaagreat", sum := "28e4f49ec91bb5245e3b4c4d2ff6733a90aed7d619940cb8a62a8268eb152f3a", func := "coxswain/coxswainlaw11.FsmReverts", spec := "fsmReverts", inPlace := ["slices.overlaps[coxswain/api.Job]", "slices.overlaps[coxswain/api.Deploy]", "slices.overlaps[coxswain/api.Eval]", "slices.overlaps[coxswain/api.Node]", "slices.overlaps[coxswain/api.Seen]"], unfollowed := true, recurses := true, apart := false, narrowed := true }
def FsmRevertsUptoSaid : Prop := fsmRevertsUptoRow.holds Tryz.pinned (OpenSpec.upto fsmRevertsSpec)

end Rows
end Go.Proofs.YtccekmeifanipaaGreat
