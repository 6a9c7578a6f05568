/-
  DERIVED. GIVEN WITH THE SEED: THE CARDS: each row of YtockcifkphfnlaaGreatDoorRows.lean that lists a variable, with what it lists TIED to the program's text (the seventh form; the later family's looks); each row that meets fmt, with fmt's text TOLD by the authors' own Lean function (tested against real Go, not proved from fmt's source: count such statements apart). THE CARD IS WHAT COUNTS. Prove the row's statement (the work); the ties are given (YtockcifkphfnlaaGreatDoorTie.lean); close each card by the builder's one call (the guide's Derived/Test/ToyasCard.lean, 'card_holds'). Laid BY PROGRAM, IN A SANDBOX (cutbox-door.mjs). By AI agents, Wed Nov 11 2026. No macro, syntax, notation, axiom, sorry.
-/
import Derived.Test.YtockcifkphfnlaaGreatDoorRows
import GoSem.ClaimSeven
namespace Go.Proofs.YtockcifkphfnlaaGreatDoor
namespace Rows

/-- THE TIED CARD OF 'coxswainlaw17.AgentLease'. -/
def agentLeaseCard : Claim7 := { stood := { row := agentLeaseRow, standIns := [], harness := (true, "e91cc56ea440930073065b5196e28965a3aa172bbeb6475f9a574da1773745d8"), looks := true }, kinds := [], alts := [], laidByText := true, laidKinds := [.data, .data, .data, .data, .sentinel, .sentinel, .pinned], laidTests := true, laidLooks := .later }
def AgentLeaseCardSaid : Prop := Claim7.holds Tryz.pinned (.plain (OpenSpec.ofChange agentLeaseSpec)) agentLeaseCard

/-- THE TIED CARD OF 'coxswainlaw17.AgentObeys'. -/
def agentObeysCard : Claim7 := { stood := { row := agentObeysRow, standIns := [], harness := (true, "e91cc56ea440930073065b5196e28965a3aa172bbeb6475f9a574da1773745d8"), looks := true }, kinds := [], alts := [], laidByText := true, laidKinds := [.data, .data, .data, .data, .sentinel, .sentinel, .pinned], laidTests := true, laidLooks := .later }
def AgentObeysCardSaid : Prop := Claim7.holds Tryz.pinned (.plain (OpenSpec.ofChange agentObeysSpec)) agentObeysCard

/-- THE TIED CARD OF 'coxswainlaw17.AgentFresh'. -/
def agentFreshCard : Claim7 := { stood := { row := agentFreshRow, standIns := [], harness := (true, "e91cc56ea440930073065b5196e28965a3aa172bbeb6475f9a574da1773745d8"), looks := true }, kinds := [], alts := [], laidByText := true, laidKinds := [.data, .data, .data, .data, .sentinel, .sentinel, .pinned], laidTests := true, laidLooks := .later }
def AgentFreshCardSaid : Prop := Claim7.holds Tryz.pinned (.plain (OpenSpec.ofChange agentFreshSpec)) agentFreshCard

/-- THE SECOND FORM's CARD OF 'coxswainlaw17.AgentLease'. -/
def agentLeaseUptoCard : Claim7 := { stood := { row := agentLeaseUptoRow, standIns := [], harness := (true, "e91cc56ea440930073065b5196e28965a3aa172bbeb6475f9a574da1773745d8"), looks := true }, kinds := [], alts := [], laidByText := true, laidKinds := [.data, .data, .data, .data, .sentinel, .sentinel, .pinned], laidTests := true, laidLooks := .later }
def AgentLeaseUptoCardSaid : Prop := Claim7.holds Tryz.pinned (.plain (OpenSpec.upto agentLeaseSpec)) agentLeaseUptoCard

/-- THE SECOND FORM's CARD OF 'coxswainlaw17.AgentObeys'. -/
def agentObeysUptoCard : Claim7 := { stood := { row := agentObeysUptoRow, standIns := [], harness := (true, "e91cc56ea440930073065b5196e28965a3aa172bbeb6475f9a574da1773745d8"), looks := true }, kinds := [], alts := [], laidByText := true, laidKinds := [.data, .data, .data, .data, .sentinel, .sentinel, .pinned], laidTests := true, laidLooks := .later }
def AgentObeysUptoCardSaid : Prop := Claim7.holds Tryz.pinned (.plain (OpenSpec.upto agentObeysSpec)) agentObeysUptoCard

/-- THE SECOND FORM's CARD OF 'coxswainlaw17.AgentFresh'. -/
def agentFreshUptoCard : Claim7 := { stood := { row := agentFreshUptoRow, standIns := [], harness := (true, "e91cc56ea440930073065b5196e28965a3aa172bbeb6475f9a574da1773745d8"), looks := true }, kinds := [], alts := [], laidByText := true, laidKinds := [.data, .data, .data, .data, .sentinel, .sentinel, .pinned], laidTests := true, laidLooks := .later }
def AgentFreshUptoCardSaid : Prop := Claim7.holds Tryz.pinned (.plain (OpenSpec.upto agentFreshSpec)) agentFreshUptoCard
end Rows
end Go.Proofs.YtockcifkphfnlaaGreatDoor
