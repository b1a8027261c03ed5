/-
  DERIVED. GIVEN WITH THE SEED: THE CARDS: each row of YtnnekdefncfeeaaDoorRows.lean that lists a variable, with what it lists TIED to the program's text (the seventh form; the later family's looks); each row that meets fmt, with fmt's text TOLD by the authors' own Lean function (tested against real Go, not proved from fmt's source: count such statements apart). THE CARD IS WHAT COUNTS. Prove the row's statement (the work); the ties are given (YtnnekdefncfeeaaDoorTie.lean); close each card by the builder's one call (the guide's Derived/Test/ToyasCard.lean, 'card_holds'). Laid BY PROGRAM, IN A SANDBOX (cutbox-door.mjs). By AI agents, Wed Nov 11 2026. No macro, syntax, notation, axiom, sorry.
-/
import Derived.Test.YtnnekdefncfeeaaDoorRows
import GoSem.ClaimSeven
namespace Go.Proofs.YtnnekdefncfeeaaDoor
namespace Rows

/-- THE TIED CARD OF 'spyglasslaw17.RunsEncodes'. -/
def runsEncodesCard : Claim7 := { stood := { row := runsEncodesRow, standIns := [], harness := (true, "92657a173bef0fb97774c3422e191e95f16f215765f5132f425781b8008877d6"), looks := true }, kinds := [], alts := [], laidByText := true, laidKinds := [.data, .data], laidTests := true, laidLooks := .later }
def RunsEncodesCardSaid : Prop := Claim7.holds Tryd.pinned (.plain (OpenSpec.ofChange runsEncodesSpec)) runsEncodesCard

/-- THE TIED CARD OF 'spyglasslaw17.RunsThere'. -/
def runsThereCard : Claim7 := { stood := { row := runsThereRow, standIns := [], harness := (true, "92657a173bef0fb97774c3422e191e95f16f215765f5132f425781b8008877d6"), looks := true }, kinds := [], alts := [], laidByText := true, laidKinds := [.data, .data], laidTests := true, laidLooks := .later }
def RunsThereCardSaid : Prop := Claim7.holds Tryd.pinned (.plain (OpenSpec.ofChange runsThereSpec)) runsThereCard

/-- THE TIED CARD OF 'spyglasslaw17.RunsFit'. -/
def runsFitCard : Claim7 := { stood := { row := runsFitRow, standIns := [], harness := (true, "92657a173bef0fb97774c3422e191e95f16f215765f5132f425781b8008877d6"), looks := true }, kinds := [], alts := [], laidByText := true, laidKinds := [.data, .data], laidTests := true, laidLooks := .later }
def RunsFitCardSaid : Prop := Claim7.holds Tryd.pinned (.plain (OpenSpec.ofChange runsFitSpec)) runsFitCard

/-- THE TIED CARD OF 'spyglasslaw17.RunsStill'. -/
def runsStillCard : Claim7 := { stood := { row := runsStillRow, standIns := [], harness := (true, "92657a173bef0fb97774c3422e191e95f16f215765f5132f425781b8008877d6"), looks := true }, kinds := [], alts := [], laidByText := true, laidKinds := [.data, .data], laidTests := true, laidLooks := .later }
def RunsStillCardSaid : Prop := Claim7.holds Tryd.pinned (.plain (OpenSpec.ofChange runsStillSpec)) runsStillCard

/-- THE SECOND FORM's CARD OF 'spyglasslaw17.RunsEncodes'. -/
def runsEncodesUptoCard : Claim7 := { stood := { row := runsEncodesUptoRow, standIns := [], harness := (true, "92657a173bef0fb97774c3422e191e95f16f215765f5132f425781b8008877d6"), looks := true }, kinds := [], alts := [], laidByText := true, laidKinds := [.data, .data], laidTests := true, laidLooks := .later }
def RunsEncodesUptoCardSaid : Prop := Claim7.holds Tryd.pinned (.plain (OpenSpec.upto runsEncodesSpec)) runsEncodesUptoCard

/-- THE SECOND FORM's CARD OF 'spyglasslaw17.RunsThere'. -/
def runsThereUptoCard : Claim7 := { stood := { row := runsThereUptoRow, standIns := [], harness := (true, "92657a173bef0fb97774c3422e191e95f16f215765f5132f425781b8008877d6"), looks := true }, kinds := [], alts := [], laidByText := true, laidKinds := [.data, .data], laidTests := true, laidLooks := .later }
def RunsThereUptoCardSaid : Prop := Claim7.holds Tryd.pinned (.plain (OpenSpec.upto runsThereSpec)) runsThereUptoCard

/-- THE SECOND FORM's CARD OF 'spyglasslaw17.RunsFit'. -/
def runsFitUptoCard : Claim7 := { stood := { row := runsFitUptoRow, standIns := [], harness := (true, "92657a173bef0fb97774c3422e191e95f16f215765f5132f425781b8008877d6"), looks := true }, kinds := [], alts := [], laidByText := true, laidKinds := [.data, .data], laidTests := true, laidLooks := .later }
def RunsFitUptoCardSaid : Prop := Claim7.holds Tryd.pinned (.plain (OpenSpec.upto runsFitSpec)) runsFitUptoCard

/-- THE SECOND FORM's CARD OF 'spyglasslaw17.RunsStill'. -/
def runsStillUptoCard : Claim7 := { stood := { row := runsStillUptoRow, standIns := [], harness := (true, "92657a173bef0fb97774c3422e191e95f16f215765f5132f425781b8008877d6"), looks := true }, kinds := [], alts := [], laidByText := true, laidKinds := [.data, .data], laidTests := true, laidLooks := .later }
def RunsStillUptoCardSaid : Prop := Claim7.holds Tryd.pinned (.plain (OpenSpec.upto runsStillSpec)) runsStillUptoCard
end Rows
end Go.Proofs.YtnnekdefncfeeaaDoor
