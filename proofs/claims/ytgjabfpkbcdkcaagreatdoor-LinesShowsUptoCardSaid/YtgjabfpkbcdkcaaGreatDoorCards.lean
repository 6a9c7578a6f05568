/-
  DERIVED. GIVEN WITH THE SEED: THE CARDS: each row of YtgjabfpkbcdkcaaGreatDoorRows.lean that lists a variable, with what it lists TIED to the program's text (the seventh form; the later family's looks); each row that meets fmt, with fmt's text TOLD by the authors' own Lean function (tested against real Go, not proved from fmt's source: count such statements apart). THE CARD IS WHAT COUNTS. Prove the row's statement (the work); the ties are given (YtgjabfpkbcdkcaaGreatDoorTie.lean); close each card by the builder's one call (the guide's Derived/Test/ToyasCard.lean, 'card_holds'). Laid BY PROGRAM, IN A SANDBOX (cutbox-door.mjs). By AI agents, Wed Nov 11 2026. No macro, syntax, notation, axiom, sorry.
-/
import Derived.Test.YtgjabfpkbcdkcaaGreatDoorRows
import GoSem.ClaimSeven
namespace Go.Proofs.YtgjabfpkbcdkcaaGreatDoor
namespace Rows

/-- THE TIED CARD OF 'coxswainlaw22.LinesPrints'. -/
def linesPrintsCard : Claim7 := { stood := { row := linesPrintsRow, standIns := [], harness := (true, "ac03c38c4c2ad54ba1e3dc88c6cac514f06d738e3f05ab6ce8f0722b2c6271db"), looks := true }, kinds := [], alts := [], laidByText := true, laidKinds := [.data, .data, .data, .pinned, .data, .sentinel, .sentinel], laidTests := true, laidLooks := .later }
def LinesPrintsCardSaid : Prop := Claim7.holds Tryz.pinned (.plain (OpenSpec.ofChange linesPrintsSpec)) linesPrintsCard

/-- THE TIED CARD OF 'coxswainlaw22.LinesParses'. -/
def linesParsesCard : Claim7 := { stood := { row := linesParsesRow, standIns := [], harness := (true, "ac03c38c4c2ad54ba1e3dc88c6cac514f06d738e3f05ab6ce8f0722b2c6271db"), looks := true }, kinds := [], alts := [], laidByText := true, laidKinds := [.pinned, .data, .sentinel, .sentinel, .data, .data, .data], laidTests := true, laidLooks := .later }
def LinesParsesCardSaid : Prop := Claim7.holds Tryz.pinned (.plain (OpenSpec.ofChange linesParsesSpec)) linesParsesCard

/-- THE TIED CARD OF 'coxswainlaw22.LinesShows'. -/
def linesShowsCard : Claim7 := { stood := { row := linesShowsRow, standIns := [], harness := (true, "ac03c38c4c2ad54ba1e3dc88c6cac514f06d738e3f05ab6ce8f0722b2c6271db"), looks := true }, kinds := [], alts := [], laidByText := true, laidKinds := [.data, .data, .data, .pinned, .data, .sentinel, .sentinel], laidTests := true, laidLooks := .later }
def LinesShowsCardSaid : Prop := Claim7.holds Tryz.pinned (.plain (OpenSpec.ofChange linesShowsSpec)) linesShowsCard

/-- THE SECOND FORM's CARD OF 'coxswainlaw22.LinesPrints'. -/
def linesPrintsUptoCard : Claim7 := { stood := { row := linesPrintsUptoRow, standIns := [], harness := (true, "ac03c38c4c2ad54ba1e3dc88c6cac514f06d738e3f05ab6ce8f0722b2c6271db"), looks := true }, kinds := [], alts := [], laidByText := true, laidKinds := [.data, .data, .data, .pinned, .data, .sentinel, .sentinel], laidTests := true, laidLooks := .later }
def LinesPrintsUptoCardSaid : Prop := Claim7.holds Tryz.pinned (.plain (OpenSpec.upto linesPrintsSpec)) linesPrintsUptoCard

/-- THE SECOND FORM's CARD OF 'coxswainlaw22.LinesParses'. -/
def linesParsesUptoCard : Claim7 := { stood := { row := linesParsesUptoRow, standIns := [], harness := (true, "ac03c38c4c2ad54ba1e3dc88c6cac514f06d738e3f05ab6ce8f0722b2c6271db"), looks := true }, kinds := [], alts := [], laidByText := true, laidKinds := [.pinned, .data, .sentinel, .sentinel, .data, .data, .data], laidTests := true, laidLooks := .later }
def LinesParsesUptoCardSaid : Prop := Claim7.holds Tryz.pinned (.plain (OpenSpec.upto linesParsesSpec)) linesParsesUptoCard

/-- THE SECOND FORM's CARD OF 'coxswainlaw22.LinesShows'. -/
def linesShowsUptoCard : Claim7 := { stood := { row := linesShowsUptoRow, standIns := [], harness := (true, "ac03c38c4c2ad54ba1e3dc88c6cac514f06d738e3f05ab6ce8f0722b2c6271db"), looks := true }, kinds := [], alts := [], laidByText := true, laidKinds := [.data, .data, .data, .pinned, .data, .sentinel, .sentinel], laidTests := true, laidLooks := .later }
def LinesShowsUptoCardSaid : Prop := Claim7.holds Tryz.pinned (.plain (OpenSpec.upto linesShowsSpec)) linesShowsUptoCard
end Rows
end Go.Proofs.YtgjabfpkbcdkcaaGreatDoor
