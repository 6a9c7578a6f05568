/-
  DERIVED. GIVEN WITH THE SEED: THE CARDS: each row of YtlfpfhdagkkliaaDoorRows.lean that lists a variable, with what it lists TIED to the program's text (the seventh form; the later family's looks); each row that meets fmt, with fmt's text TOLD by the authors' own Lean function (tested against real Go, not proved from fmt's source: count such statements apart). THE CARD IS WHAT COUNTS. Prove the row's statement (the work); the ties are given (YtlfpfhdagkkliaaDoorTie.lean); close each card by the builder's one call (the guide's Derived/Test/ToyasCard.lean, 'card_holds'). Laid BY PROGRAM, IN A SANDBOX (cutbox-door.mjs). By AI agents, Wed Nov 11 2026. No macro, syntax, notation, axiom, sorry.
-/
import Derived.Test.YtlfpfhdagkkliaaDoorRows
import GoSem.ClaimSeven
namespace Go.Proofs.YtlfpfhdagkkliaaDoor
namespace Rows

/-- THE TIED CARD OF 'coxswainlaw02.DiskPlays'. -/
def diskPlaysCard : Claim7 := { stood := { row := diskPlaysRow, standIns := [], harness := (true, "c856366aa55f94f8a88b1837a3797e52ae49841fe888c766dac3d6257fd68b13"), looks := true }, kinds := [], alts := [], laidByText := true, laidKinds := [.data, .pinned], laidTests := true, laidLooks := .later }
def DiskPlaysCardSaid : Prop := Claim7.holds Tryd.pinned (.plain (OpenSpec.ofChange diskPlaysSpec)) diskPlaysCard

/-- THE TIED CARD OF 'coxswainlaw02.DiskKeeps'. -/
def diskKeepsCard : Claim7 := { stood := { row := diskKeepsRow, standIns := [], harness := (true, "c856366aa55f94f8a88b1837a3797e52ae49841fe888c766dac3d6257fd68b13"), looks := true }, kinds := [], alts := [], laidByText := true, laidKinds := [.data, .pinned], laidTests := true, laidLooks := .later }
def DiskKeepsCardSaid : Prop := Claim7.holds Tryd.pinned (.plain (OpenSpec.ofChange diskKeepsSpec)) diskKeepsCard

/-- THE TIED CARD OF 'coxswainlaw02.DiskWhole'. -/
def diskWholeCard : Claim7 := { stood := { row := diskWholeRow, standIns := [], harness := (true, "c856366aa55f94f8a88b1837a3797e52ae49841fe888c766dac3d6257fd68b13"), looks := true }, kinds := [], alts := [], laidByText := true, laidKinds := [.data, .pinned], laidTests := true, laidLooks := .later }
def DiskWholeCardSaid : Prop := Claim7.holds Tryd.pinned (.plain (OpenSpec.ofChange diskWholeSpec)) diskWholeCard

/-- THE TIED CARD OF 'coxswainlaw02.DiskCuts'. -/
def diskCutsCard : Claim7 := { stood := { row := diskCutsRow, standIns := [], harness := (true, "c856366aa55f94f8a88b1837a3797e52ae49841fe888c766dac3d6257fd68b13"), looks := true }, kinds := [], alts := [], laidByText := true, laidKinds := [.data, .pinned], laidTests := true, laidLooks := .later }
def DiskCutsCardSaid : Prop := Claim7.holds Tryd.pinned (.plain (OpenSpec.ofChange diskCutsSpec)) diskCutsCard

/-- THE TIED CARD OF 'coxswainlaw02.DiskElse'. -/
def diskElseCard : Claim7 := { stood := { row := diskElseRow, standIns := [], harness := (true, "c856366aa55f94f8a88b1837a3797e52ae49841fe888c766dac3d6257fd68b13"), looks := true }, kinds := [], alts := [], laidByText := true, laidKinds := [.data, .pinned], laidTests := true, laidLooks := .later }
def DiskElseCardSaid : Prop := Claim7.holds Tryd.pinned (.plain (OpenSpec.ofChange diskElseSpec)) diskElseCard

/-- THE TIED CARD OF 'coxswainlaw02.DiskAgain'. -/
def diskAgainCard : Claim7 := { stood := { row := diskAgainRow, standIns := [], harness := (true, "c856366aa55f94f8a88b1837a3797e52ae49841fe888c766dac3d6257fd68b13"), looks := true }, kinds := [], alts := [], laidByText := true, laidKinds := [.data, .pinned], laidTests := true, laidLooks := .later }
def DiskAgainCardSaid : Prop := Claim7.holds Tryd.pinned (.plain (OpenSpec.ofChange diskAgainSpec)) diskAgainCard

/-- THE SECOND FORM's CARD OF 'coxswainlaw02.DiskPlays'. -/
def diskPlaysUptoCard : Claim7 := { stood := { row := diskPlaysUptoRow, standIns := [], harness := (true, "c856366aa55f94f8a88b1837a3797e52ae49841fe888c766dac3d6257fd68b13"), looks := true }, kinds := [], alts := [], laidByText := true, laidKinds := [.data, .pinned], laidTests := true, laidLooks := .later }
def DiskPlaysUptoCardSaid : Prop := Claim7.holds Tryd.pinned (.plain (OpenSpec.upto diskPlaysSpec)) diskPlaysUptoCard

/-- THE SECOND FORM's CARD OF 'coxswainlaw02.DiskKeeps'. -/
def diskKeepsUptoCard : Claim7 := { stood := { row := diskKeepsUptoRow, standIns := [], harness := (true, "c856366aa55f94f8a88b1837a3797e52ae49841fe888c766dac3d6257fd68b13"), looks := true }, kinds := [], alts := [], laidByText := true, laidKinds := [.data, .pinned], laidTests := true, laidLooks := .later }
def DiskKeepsUptoCardSaid : Prop := Claim7.holds Tryd.pinned (.plain (OpenSpec.upto diskKeepsSpec)) diskKeepsUptoCard

/-- THE SECOND FORM's CARD OF 'coxswainlaw02.DiskWhole'. -/
def diskWholeUptoCard : Claim7 := { stood := { row := diskWholeUptoRow, standIns := [], harness := (true, "c856366aa55f94f8a88b1837a3797e52ae49841fe888c766dac3d6257fd68b13"), looks := true }, kinds := [], alts := [], laidByText := true, laidKinds := [.data, .pinned], laidTests := true, laidLooks := .later }
def DiskWholeUptoCardSaid : Prop := Claim7.holds Tryd.pinned (.plain (OpenSpec.upto diskWholeSpec)) diskWholeUptoCard

/-- THE SECOND FORM's CARD OF 'coxswainlaw02.DiskCuts'. -/
def diskCutsUptoCard : Claim7 := { stood := { row := diskCutsUptoRow, standIns := [], harness := (true, "c856366aa55f94f8a88b1837a3797e52ae49841fe888c766dac3d6257fd68b13"), looks := true }, kinds := [], alts := [], laidByText := true, laidKinds := [.data, .pinned], laidTests := true, laidLooks := .later }
def DiskCutsUptoCardSaid : Prop := Claim7.holds Tryd.pinned (.plain (OpenSpec.upto diskCutsSpec)) diskCutsUptoCard

/-- THE SECOND FORM's CARD OF 'coxswainlaw02.DiskElse'. -/
def diskElseUptoCard : Claim7 := { stood := { row := diskElseUptoRow, standIns := [], harness := (true, "c856366aa55f94f8a88b1837a3797e52ae49841fe888c766dac3d6257fd68b13"), looks := true }, kinds := [], alts := [], laidByText := true, laidKinds := [.data, .pinned], laidTests := true, laidLooks := .later }
def DiskElseUptoCardSaid : Prop := Claim7.holds Tryd.pinned (.plain (OpenSpec.upto diskElseSpec)) diskElseUptoCard

/-- THE SECOND FORM's CARD OF 'coxswainlaw02.DiskAgain'. -/
def diskAgainUptoCard : Claim7 := { stood := { row := diskAgainUptoRow, standIns := [], harness := (true, "c856366aa55f94f8a88b1837a3797e52ae49841fe888c766dac3d6257fd68b13"), looks := true }, kinds := [], alts := [], laidByText := true, laidKinds := [.data, .pinned], laidTests := true, laidLooks := .later }
def DiskAgainUptoCardSaid : Prop := Claim7.holds Tryd.pinned (.plain (OpenSpec.upto diskAgainSpec)) diskAgainUptoCard
end Rows
end Go.Proofs.YtlfpfhdagkkliaaDoor
