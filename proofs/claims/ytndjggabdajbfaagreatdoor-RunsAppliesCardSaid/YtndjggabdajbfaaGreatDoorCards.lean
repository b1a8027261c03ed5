/-
  DERIVED. GIVEN WITH THE SEED: THE CARDS: each row of YtndjggabdajbfaaGreatDoorRows.lean that lists a variable, with what it lists TIED to the program's text (the seventh form; the later family's looks); each row that meets fmt, with fmt's text TOLD by the authors' own Lean function (tested against real Go, not proved from fmt's source: count such statements apart). THE CARD IS WHAT COUNTS. Prove the row's statement (the work); the ties are given (YtndjggabdajbfaaGreatDoorTie.lean); close each card by the builder's one call (the guide's Derived/Test/ToyasCard.lean, 'card_holds'). Laid BY PROGRAM, IN A SANDBOX (cutbox-door.mjs). By AI agents, Wed Nov 11 2026. No macro, syntax, notation, axiom, sorry.
-/
import Derived.Test.YtndjggabdajbfaaGreatDoorRows
import GoSem.ClaimSeven
namespace Go.Proofs.YtndjggabdajbfaaGreatDoor
namespace Rows

/-- THE TIED CARD OF 'spyglasslaw17.RunsApplies'. -/
def runsAppliesCard : Claim7 := { stood := { row := runsAppliesRow, standIns := [], harness := (true, "ef065d141b13c13e8a7aa775b5cf873138ad82c6fa3d50ec7d597956ce7cffa9"), looks := true }, kinds := [], alts := [], laidByText := true, laidKinds := [.data, .data], laidTests := true, laidLooks := .later }
def RunsAppliesCardSaid : Prop := Claim7.holds Tryz.pinned (.plain (OpenSpec.ofChange runsAppliesSpec)) runsAppliesCard

/-- THE SECOND FORM's CARD OF 'spyglasslaw17.RunsApplies'. -/
def runsAppliesUptoCard : Claim7 := { stood := { row := runsAppliesUptoRow, standIns := [], harness := (true, "ef065d141b13c13e8a7aa775b5cf873138ad82c6fa3d50ec7d597956ce7cffa9"), looks := true }, kinds := [], alts := [], laidByText := true, laidKinds := [.data, .data], laidTests := true, laidLooks := .later }
def RunsAppliesUptoCardSaid : Prop := Claim7.holds Tryz.pinned (.plain (OpenSpec.upto runsAppliesSpec)) runsAppliesUptoCard
end Rows
end Go.Proofs.YtndjggabdajbfaaGreatDoor
