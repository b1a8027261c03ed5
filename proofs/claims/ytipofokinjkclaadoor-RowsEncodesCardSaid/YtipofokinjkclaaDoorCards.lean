/-
  DERIVED. GIVEN WITH THE SEED: THE CARDS: each row of YtipofokinjkclaaDoorRows.lean that lists a variable, with what it lists TIED to the program's text (the seventh form; the later family's looks); each row that meets fmt, with fmt's text TOLD by the authors' own Lean function (tested against real Go, not proved from fmt's source: count such statements apart). THE CARD IS WHAT COUNTS. Prove the row's statement (the work); the ties are given (YtipofokinjkclaaDoorTie.lean); close each card by the builder's one call (the guide's Derived/Test/ToyasCard.lean, 'card_holds'). Laid BY PROGRAM, IN A SANDBOX (cutbox-door.mjs). By AI agents, Wed Nov 11 2026. No macro, syntax, notation, axiom, sorry.
-/
import Derived.Test.YtipofokinjkclaaDoorRows
import GoSem.ClaimSeven
namespace Go.Proofs.YtipofokinjkclaaDoor
namespace Rows

/-- THE TIED CARD OF 'spyglasslaw16.RowsEncodes'. -/
def rowsEncodesCard : Claim7 := { stood := { row := rowsEncodesRow, standIns := [], harness := (true, "a6fd50257d58d9460f11b66e9eb6709c1c32f9147b3823c9cd956b8eafbb4f04"), looks := true }, kinds := [], alts := [], laidByText := true, laidKinds := [.data, .data], laidTests := true, laidLooks := .later }
def RowsEncodesCardSaid : Prop := Claim7.holds Tryd.pinned (.plain (OpenSpec.ofChange rowsEncodesSpec)) rowsEncodesCard

/-- THE TIED CARD OF 'spyglasslaw16.RowsStill'. -/
def rowsStillCard : Claim7 := { stood := { row := rowsStillRow, standIns := [], harness := (true, "a6fd50257d58d9460f11b66e9eb6709c1c32f9147b3823c9cd956b8eafbb4f04"), looks := true }, kinds := [], alts := [], laidByText := true, laidKinds := [.data, .data], laidTests := true, laidLooks := .later }
def RowsStillCardSaid : Prop := Claim7.holds Tryd.pinned (.plain (OpenSpec.ofChange rowsStillSpec)) rowsStillCard

/-- THE TIED CARD OF 'spyglasslaw15.ProjectShows'. -/
def projectShowsCard : Claim7 := { stood := { row := projectShowsRow, standIns := [], harness := (true, "a6fd50257d58d9460f11b66e9eb6709c1c32f9147b3823c9cd956b8eafbb4f04"), looks := true }, kinds := [], alts := [], laidByText := true, laidKinds := [.data, .data, .data, .data], laidTests := true, laidLooks := .later }
def ProjectShowsCardSaid : Prop := Claim7.holds Tryd.pinned (.plain (OpenSpec.ofChange projectShowsSpec)) projectShowsCard

/-- THE TIED CARD OF 'spyglasslaw15.ProjectRight'. -/
def projectRightCard : Claim7 := { stood := { row := projectRightRow, standIns := [], harness := (true, "a6fd50257d58d9460f11b66e9eb6709c1c32f9147b3823c9cd956b8eafbb4f04"), looks := true }, kinds := [], alts := [], laidByText := true, laidKinds := [.data, .data, .data, .data], laidTests := true, laidLooks := .later }
def ProjectRightCardSaid : Prop := Claim7.holds Tryd.pinned (.plain (OpenSpec.ofChange projectRightSpec)) projectRightCard

/-- THE TIED CARD OF 'spyglasslaw15.ProjectTwice'. -/
def projectTwiceCard : Claim7 := { stood := { row := projectTwiceRow, standIns := [], harness := (true, "a6fd50257d58d9460f11b66e9eb6709c1c32f9147b3823c9cd956b8eafbb4f04"), looks := true }, kinds := [], alts := [], laidByText := true, laidKinds := [.data, .data, .data, .data], laidTests := true, laidLooks := .later }
def ProjectTwiceCardSaid : Prop := Claim7.holds Tryd.pinned (.plain (OpenSpec.ofChange projectTwiceSpec)) projectTwiceCard

/-- THE TIED CARD OF 'spyglasslaw15.ProjectPlain'. -/
def projectPlainCard : Claim7 := { stood := { row := projectPlainRow, standIns := [], harness := (true, "a6fd50257d58d9460f11b66e9eb6709c1c32f9147b3823c9cd956b8eafbb4f04"), looks := true }, kinds := [], alts := [], laidByText := true, laidKinds := [.data, .data, .data, .data], laidTests := true, laidLooks := .later }
def ProjectPlainCardSaid : Prop := Claim7.holds Tryd.pinned (.plain (OpenSpec.ofChange projectPlainSpec)) projectPlainCard

/-- THE TIED CARD OF 'spyglasslaw15.ProjectBlank'. -/
def projectBlankCard : Claim7 := { stood := { row := projectBlankRow, standIns := [], harness := (true, "a6fd50257d58d9460f11b66e9eb6709c1c32f9147b3823c9cd956b8eafbb4f04"), looks := true }, kinds := [], alts := [], laidByText := true, laidKinds := [.data, .data, .data, .data], laidTests := true, laidLooks := .later }
def ProjectBlankCardSaid : Prop := Claim7.holds Tryd.pinned (.plain (OpenSpec.ofChange projectBlankSpec)) projectBlankCard

/-- THE TIED CARD OF 'spyglasslaw17.RunsEncodes'. -/
def runsEncodesCard : Claim7 := { stood := { row := runsEncodesRow, standIns := [], harness := (true, "a6fd50257d58d9460f11b66e9eb6709c1c32f9147b3823c9cd956b8eafbb4f04"), looks := true }, kinds := [], alts := [], laidByText := true, laidKinds := [.data, .data], laidTests := true, laidLooks := .later }
def RunsEncodesCardSaid : Prop := Claim7.holds Tryd.pinned (.plain (OpenSpec.ofChange runsEncodesSpec)) runsEncodesCard

/-- THE TIED CARD OF 'spyglasslaw16.RowsApplies'. -/
def rowsAppliesCard : Claim7 := { stood := { row := rowsAppliesRow, standIns := [], harness := (true, "a6fd50257d58d9460f11b66e9eb6709c1c32f9147b3823c9cd956b8eafbb4f04"), looks := true }, kinds := [], alts := [], laidByText := true, laidKinds := [.data, .data], laidTests := true, laidLooks := .later }
def RowsAppliesCardSaid : Prop := Claim7.holds Tryd.pinned (.plain (OpenSpec.ofChange rowsAppliesSpec)) rowsAppliesCard

/-- THE TIED CARD OF 'spyglasslaw16.RowsThere'. -/
def rowsThereCard : Claim7 := { stood := { row := rowsThereRow, standIns := [], harness := (true, "a6fd50257d58d9460f11b66e9eb6709c1c32f9147b3823c9cd956b8eafbb4f04"), looks := true }, kinds := [], alts := [], laidByText := true, laidKinds := [.data, .data], laidTests := true, laidLooks := .later }
def RowsThereCardSaid : Prop := Claim7.holds Tryd.pinned (.plain (OpenSpec.ofChange rowsThereSpec)) rowsThereCard

/-- THE TIED CARD OF 'spyglasslaw16.RowsFit'. -/
def rowsFitCard : Claim7 := { stood := { row := rowsFitRow, standIns := [], harness := (true, "a6fd50257d58d9460f11b66e9eb6709c1c32f9147b3823c9cd956b8eafbb4f04"), looks := true }, kinds := [], alts := [], laidByText := true, laidKinds := [.data, .data], laidTests := true, laidLooks := .later }
def RowsFitCardSaid : Prop := Claim7.holds Tryd.pinned (.plain (OpenSpec.ofChange rowsFitSpec)) rowsFitCard

/-- THE TIED CARD OF 'spyglasslaw17.RunsThere'. -/
def runsThereCard : Claim7 := { stood := { row := runsThereRow, standIns := [], harness := (true, "a6fd50257d58d9460f11b66e9eb6709c1c32f9147b3823c9cd956b8eafbb4f04"), looks := true }, kinds := [], alts := [], laidByText := true, laidKinds := [.data, .data], laidTests := true, laidLooks := .later }
def RunsThereCardSaid : Prop := Claim7.holds Tryd.pinned (.plain (OpenSpec.ofChange runsThereSpec)) runsThereCard

/-- THE TIED CARD OF 'spyglasslaw17.RunsFit'. -/
def runsFitCard : Claim7 := { stood := { row := runsFitRow, standIns := [], harness := (true, "a6fd50257d58d9460f11b66e9eb6709c1c32f9147b3823c9cd956b8eafbb4f04"), looks := true }, kinds := [], alts := [], laidByText := true, laidKinds := [.data, .data], laidTests := true, laidLooks := .later }
def RunsFitCardSaid : Prop := Claim7.holds Tryd.pinned (.plain (OpenSpec.ofChange runsFitSpec)) runsFitCard

/-- THE TIED CARD OF 'spyglasslaw17.RunsStill'. -/
def runsStillCard : Claim7 := { stood := { row := runsStillRow, standIns := [], harness := (true, "a6fd50257d58d9460f11b66e9eb6709c1c32f9147b3823c9cd956b8eafbb4f04"), looks := true }, kinds := [], alts := [], laidByText := true, laidKinds := [.data, .data], laidTests := true, laidLooks := .later }
def RunsStillCardSaid : Prop := Claim7.holds Tryd.pinned (.plain (OpenSpec.ofChange runsStillSpec)) runsStillCard

/-- THE SECOND FORM's CARD OF 'spyglasslaw16.RowsEncodes'. -/
def rowsEncodesUptoCard : Claim7 := { stood := { row := rowsEncodesUptoRow, standIns := [], harness := (true, "a6fd50257d58d9460f11b66e9eb6709c1c32f9147b3823c9cd956b8eafbb4f04"), looks := true }, kinds := [], alts := [], laidByText := true, laidKinds := [.data, .data], laidTests := true, laidLooks := .later }
def RowsEncodesUptoCardSaid : Prop := Claim7.holds Tryd.pinned (.plain (OpenSpec.upto rowsEncodesSpec)) rowsEncodesUptoCard

/-- THE SECOND FORM's CARD OF 'spyglasslaw16.RowsStill'. -/
def rowsStillUptoCard : Claim7 := { stood := { row := rowsStillUptoRow, standIns := [], harness := (true, "a6fd50257d58d9460f11b66e9eb6709c1c32f9147b3823c9cd956b8eafbb4f04"), looks := true }, kinds := [], alts := [], laidByText := true, laidKinds := [.data, .data], laidTests := true, laidLooks := .later }
def RowsStillUptoCardSaid : Prop := Claim7.holds Tryd.pinned (.plain (OpenSpec.upto rowsStillSpec)) rowsStillUptoCard

/-- THE SECOND FORM's CARD OF 'spyglasslaw15.ProjectShows'. -/
def projectShowsUptoCard : Claim7 := { stood := { row := projectShowsUptoRow, standIns := [], harness := (true, "a6fd50257d58d9460f11b66e9eb6709c1c32f9147b3823c9cd956b8eafbb4f04"), looks := true }, kinds := [], alts := [], laidByText := true, laidKinds := [.data, .data, .data, .data], laidTests := true, laidLooks := .later }
def ProjectShowsUptoCardSaid : Prop := Claim7.holds Tryd.pinned (.plain (OpenSpec.upto projectShowsSpec)) projectShowsUptoCard

/-- THE SECOND FORM's CARD OF 'spyglasslaw15.ProjectRight'. -/
def projectRightUptoCard : Claim7 := { stood := { row := projectRightUptoRow, standIns := [], harness := (true, "a6fd50257d58d9460f11b66e9eb6709c1c32f9147b3823c9cd956b8eafbb4f04"), looks := true }, kinds := [], alts := [], laidByText := true, laidKinds := [.data, .data, .data, .data], laidTests := true, laidLooks := .later }
def ProjectRightUptoCardSaid : Prop := Claim7.holds Tryd.pinned (.plain (OpenSpec.upto projectRightSpec)) projectRightUptoCard

/-- THE SECOND FORM's CARD OF 'spyglasslaw15.ProjectTwice'. -/
def projectTwiceUptoCard : Claim7 := { stood := { row := projectTwiceUptoRow, standIns := [], harness := (true, "a6fd50257d58d9460f11b66e9eb6709c1c32f9147b3823c9cd956b8eafbb4f04"), looks := true }, kinds := [], alts := [], laidByText := true, laidKinds := [.data, .data, .data, .data], laidTests := true, laidLooks := .later }
def ProjectTwiceUptoCardSaid : Prop := Claim7.holds Tryd.pinned (.plain (OpenSpec.upto projectTwiceSpec)) projectTwiceUptoCard

/-- THE SECOND FORM's CARD OF 'spyglasslaw15.ProjectPlain'. -/
def projectPlainUptoCard : Claim7 := { stood := { row := projectPlainUptoRow, standIns := [], harness := (true, "a6fd50257d58d9460f11b66e9eb6709c1c32f9147b3823c9cd956b8eafbb4f04"), looks := true }, kinds := [], alts := [], laidByText := true, laidKinds := [.data, .data, .data, .data], laidTests := true, laidLooks := .later }
def ProjectPlainUptoCardSaid : Prop := Claim7.holds Tryd.pinned (.plain (OpenSpec.upto projectPlainSpec)) projectPlainUptoCard

/-- THE SECOND FORM's CARD OF 'spyglasslaw15.ProjectBlank'. -/
def projectBlankUptoCard : Claim7 := { stood := { row := projectBlankUptoRow, standIns := [], harness := (true, "a6fd50257d58d9460f11b66e9eb6709c1c32f9147b3823c9cd956b8eafbb4f04"), looks := true }, kinds := [], alts := [], laidByText := true, laidKinds := [.data, .data, .data, .data], laidTests := true, laidLooks := .later }
def ProjectBlankUptoCardSaid : Prop := Claim7.holds Tryd.pinned (.plain (OpenSpec.upto projectBlankSpec)) projectBlankUptoCard

/-- THE SECOND FORM's CARD OF 'spyglasslaw17.RunsEncodes'. -/
def runsEncodesUptoCard : Claim7 := { stood := { row := runsEncodesUptoRow, standIns := [], harness := (true, "a6fd50257d58d9460f11b66e9eb6709c1c32f9147b3823c9cd956b8eafbb4f04"), looks := true }, kinds := [], alts := [], laidByText := true, laidKinds := [.data, .data], laidTests := true, laidLooks := .later }
def RunsEncodesUptoCardSaid : Prop := Claim7.holds Tryd.pinned (.plain (OpenSpec.upto runsEncodesSpec)) runsEncodesUptoCard

/-- THE SECOND FORM's CARD OF 'spyglasslaw16.RowsApplies'. -/
def rowsAppliesUptoCard : Claim7 := { stood := { row := rowsAppliesUptoRow, standIns := [], harness := (true, "a6fd50257d58d9460f11b66e9eb6709c1c32f9147b3823c9cd956b8eafbb4f04"), looks := true }, kinds := [], alts := [], laidByText := true, laidKinds := [.data, .data], laidTests := true, laidLooks := .later }
def RowsAppliesUptoCardSaid : Prop := Claim7.holds Tryd.pinned (.plain (OpenSpec.upto rowsAppliesSpec)) rowsAppliesUptoCard

/-- THE SECOND FORM's CARD OF 'spyglasslaw16.RowsThere'. -/
def rowsThereUptoCard : Claim7 := { stood := { row := rowsThereUptoRow, standIns := [], harness := (true, "a6fd50257d58d9460f11b66e9eb6709c1c32f9147b3823c9cd956b8eafbb4f04"), looks := true }, kinds := [], alts := [], laidByText := true, laidKinds := [.data, .data], laidTests := true, laidLooks := .later }
def RowsThereUptoCardSaid : Prop := Claim7.holds Tryd.pinned (.plain (OpenSpec.upto rowsThereSpec)) rowsThereUptoCard

/-- THE SECOND FORM's CARD OF 'spyglasslaw16.RowsFit'. -/
def rowsFitUptoCard : Claim7 := { stood := { row := rowsFitUptoRow, standIns := [], harness := (true, "a6fd50257d58d9460f11b66e9eb6709c1c32f9147b3823c9cd956b8eafbb4f04"), looks := true }, kinds := [], alts := [], laidByText := true, laidKinds := [.data, .data], laidTests := true, laidLooks := .later }
def RowsFitUptoCardSaid : Prop := Claim7.holds Tryd.pinned (.plain (OpenSpec.upto rowsFitSpec)) rowsFitUptoCard

/-- THE SECOND FORM's CARD OF 'spyglasslaw17.RunsThere'. -/
def runsThereUptoCard : Claim7 := { stood := { row := runsThereUptoRow, standIns := [], harness := (true, "a6fd50257d58d9460f11b66e9eb6709c1c32f9147b3823c9cd956b8eafbb4f04"), looks := true }, kinds := [], alts := [], laidByText := true, laidKinds := [.data, .data], laidTests := true, laidLooks := .later }
def RunsThereUptoCardSaid : Prop := Claim7.holds Tryd.pinned (.plain (OpenSpec.upto runsThereSpec)) runsThereUptoCard

/-- THE SECOND FORM's CARD OF 'spyglasslaw17.RunsFit'. -/
def runsFitUptoCard : Claim7 := { stood := { row := runsFitUptoRow, standIns := [], harness := (true, "a6fd50257d58d9460f11b66e9eb6709c1c32f9147b3823c9cd956b8eafbb4f04"), looks := true }, kinds := [], alts := [], laidByText := true, laidKinds := [.data, .data], laidTests := true, laidLooks := .later }
def RunsFitUptoCardSaid : Prop := Claim7.holds Tryd.pinned (.plain (OpenSpec.upto runsFitSpec)) runsFitUptoCard

/-- THE SECOND FORM's CARD OF 'spyglasslaw17.RunsStill'. -/
def runsStillUptoCard : Claim7 := { stood := { row := runsStillUptoRow, standIns := [], harness := (true, "a6fd50257d58d9460f11b66e9eb6709c1c32f9147b3823c9cd956b8eafbb4f04"), looks := true }, kinds := [], alts := [], laidByText := true, laidKinds := [.data, .data], laidTests := true, laidLooks := .later }
def RunsStillUptoCardSaid : Prop := Claim7.holds Tryd.pinned (.plain (OpenSpec.upto runsStillSpec)) runsStillUptoCard
end Rows
end Go.Proofs.YtipofokinjkclaaDoor
