/- For every input of bulk at most 1048576 LinesShows returns true, and what it was given reads as it did: the card. -/
import Derived.Test.YtgjabfpkbcdkcaaGreatDoorLs5Said
import Derived.Test.YtgjabfpkbcdkcaaGreatDoorLsH
import Derived.Test.YtgjabfpkbcdkcaaGreatDoorLsT
namespace Go.Proofs.YtgjabfpkbcdkcaaGreatDoor
set_option linter.unusedVariables false
open Go
theorem linesShows_holds : Rows.LinesShowsUptoCardSaid :=
  Claim7.holds_tied_plain_at .later [] _ _ _ _ linesShows_said (fun _ h => by cases h) cardWf (fun _ h => by cases h) showsTie rfl ⟨rfl, rfl⟩ cardMain rfl linesShows_plain cardGoes
end Go.Proofs.YtgjabfpkbcdkcaaGreatDoor
