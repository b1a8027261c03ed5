/-
  DERIVED. GIVEN WITH THE SEED: THE CARDS: each row of YtacindehajholaaDoorRows.lean that lists a variable, with what it lists TIED to the program's text (the seventh form; the later family's looks); each row that meets fmt, with fmt's text TOLD by the authors' own Lean function (tested against real Go, not proved from fmt's source: count such statements apart). THE CARD IS WHAT COUNTS. Prove the row's statement (the work); the ties are given (YtacindehajholaaDoorTie.lean); close each card by the builder's one call (the guide's Derived/Test/ToyasCard.lean, 'card_holds'). Laid BY PROGRAM, IN A SANDBOX (cutbox-door.mjs). By AI agents, Wed Nov 11 2026. No macro, syntax, notation, axiom, sorry.
-/
import Derived.Test.YtacindehajholaaDoorRows
import GoSem.ClaimSeven
namespace Go.Proofs.YtacindehajholaaDoor
namespace Rows

/-- THE TIED CARD OF 'spyglasslaw03.ShaSums'. -/
def shaSumsCard : Claim7 := { stood := { row := shaSumsRow, standIns := [], harness := (true, "4ac9a3e2010f1dc551c250a4f76b4b77724866b3cc316c29779dd9c93992bc67"), looks := false }, kinds := [], alts := [], laidByText := true, laidKinds := [.data], laidTests := true, laidLooks := .later }
def ShaSumsCardSaid : Prop := Claim7.holds Tryd.pinned (.plain (OpenSpec.ofChange shaSumsSpec)) shaSumsCard

/-- THE TIED CARD OF 'spyglasslaw03.ShaCuts'. -/
def shaCutsCard : Claim7 := { stood := { row := shaCutsRow, standIns := [], harness := (true, "4ac9a3e2010f1dc551c250a4f76b4b77724866b3cc316c29779dd9c93992bc67"), looks := false }, kinds := [], alts := [], laidByText := true, laidKinds := [.data], laidTests := true, laidLooks := .later }
def ShaCutsCardSaid : Prop := Claim7.holds Tryd.pinned (.plain (OpenSpec.ofChange shaCutsSpec)) shaCutsCard

/-- THE TIED CARD OF 'spyglasslaw03.ShaPads'. -/
def shaPadsCard : Claim7 := { stood := { row := shaPadsRow, standIns := [], harness := (true, "4ac9a3e2010f1dc551c250a4f76b4b77724866b3cc316c29779dd9c93992bc67"), looks := false }, kinds := [], alts := [], laidByText := true, laidKinds := [.data], laidTests := true, laidLooks := .later }
def ShaPadsCardSaid : Prop := Claim7.holds Tryd.pinned (.plain (OpenSpec.ofChange shaPadsSpec)) shaPadsCard

/-- THE TIED CARD OF 'spyglasslaw03.ShaNone'. -/
def shaNoneCard : Claim7 := { stood := { row := shaNoneRow, standIns := [], harness := (true, "4ac9a3e2010f1dc551c250a4f76b4b77724866b3cc316c29779dd9c93992bc67"), looks := false }, kinds := [], alts := [], laidByText := true, laidKinds := [.data], laidTests := true, laidLooks := .later }
def ShaNoneCardSaid : Prop := Claim7.holds Tryd.pinned (.plain (OpenSpec.ofChange shaNoneSpec)) shaNoneCard

/-- THE TIED CARD OF 'spyglasslaw04.MacCodes'. -/
def macCodesCard : Claim7 := { stood := { row := macCodesRow, standIns := [], harness := (true, "4ac9a3e2010f1dc551c250a4f76b4b77724866b3cc316c29779dd9c93992bc67"), looks := false }, kinds := [], alts := [], laidByText := true, laidKinds := [.data], laidTests := true, laidLooks := .later }
def MacCodesCardSaid : Prop := Claim7.holds Tryd.pinned (.plain (OpenSpec.ofChange macCodesSpec)) macCodesCard

/-- THE TIED CARD OF 'spyglasslaw04.MacSame'. -/
def macSameCard : Claim7 := { stood := { row := macSameRow, standIns := [], harness := (true, "4ac9a3e2010f1dc551c250a4f76b4b77724866b3cc316c29779dd9c93992bc67"), looks := false }, kinds := [], alts := [], laidByText := true, laidKinds := [.data], laidTests := true, laidLooks := .later }
def MacSameCardSaid : Prop := Claim7.holds Tryd.pinned (.plain (OpenSpec.ofChange macSameSpec)) macSameCard

/-- THE TIED CARD OF 'spyglasslaw04.MacPieces'. -/
def macPiecesCard : Claim7 := { stood := { row := macPiecesRow, standIns := [], harness := (true, "4ac9a3e2010f1dc551c250a4f76b4b77724866b3cc316c29779dd9c93992bc67"), looks := false }, kinds := [], alts := [], laidByText := true, laidKinds := [.data], laidTests := true, laidLooks := .later }
def MacPiecesCardSaid : Prop := Claim7.holds Tryd.pinned (.plain (OpenSpec.ofChange macPiecesSpec)) macPiecesCard

/-- THE TIED CARD OF 'spyglasslaw04.MacDerives'. -/
def macDerivesCard : Claim7 := { stood := { row := macDerivesRow, standIns := [], harness := (true, "4ac9a3e2010f1dc551c250a4f76b4b77724866b3cc316c29779dd9c93992bc67"), looks := false }, kinds := [], alts := [], laidByText := true, laidKinds := [.data], laidTests := true, laidLooks := .later }
def MacDerivesCardSaid : Prop := Claim7.holds Tryd.pinned (.plain (OpenSpec.ofChange macDerivesSpec)) macDerivesCard

/-- THE TIED CARD OF 'spyglasslaw04.MacTold'. -/
def macToldCard : Claim7 := { stood := { row := macToldRow, standIns := [], harness := (true, "4ac9a3e2010f1dc551c250a4f76b4b77724866b3cc316c29779dd9c93992bc67"), looks := false }, kinds := [], alts := [], laidByText := true, laidKinds := [.data], laidTests := true, laidLooks := .later }
def MacToldCardSaid : Prop := Claim7.holds Tryd.pinned (.plain (OpenSpec.ofChange macToldSpec)) macToldCard

/-- THE SECOND FORM's CARD OF 'spyglasslaw03.ShaSums'. -/
def shaSumsUptoCard : Claim7 := { stood := { row := shaSumsUptoRow, standIns := [], harness := (true, "4ac9a3e2010f1dc551c250a4f76b4b77724866b3cc316c29779dd9c93992bc67"), looks := false }, kinds := [], alts := [], laidByText := true, laidKinds := [.data], laidTests := true, laidLooks := .later }
def ShaSumsUptoCardSaid : Prop := Claim7.holds Tryd.pinned (.plain (OpenSpec.upto shaSumsSpec)) shaSumsUptoCard

/-- THE SECOND FORM's CARD OF 'spyglasslaw03.ShaCuts'. -/
def shaCutsUptoCard : Claim7 := { stood := { row := shaCutsUptoRow, standIns := [], harness := (true, "4ac9a3e2010f1dc551c250a4f76b4b77724866b3cc316c29779dd9c93992bc67"), looks := false }, kinds := [], alts := [], laidByText := true, laidKinds := [.data], laidTests := true, laidLooks := .later }
def ShaCutsUptoCardSaid : Prop := Claim7.holds Tryd.pinned (.plain (OpenSpec.upto shaCutsSpec)) shaCutsUptoCard

/-- THE SECOND FORM's CARD OF 'spyglasslaw03.ShaPads'. -/
def shaPadsUptoCard : Claim7 := { stood := { row := shaPadsUptoRow, standIns := [], harness := (true, "4ac9a3e2010f1dc551c250a4f76b4b77724866b3cc316c29779dd9c93992bc67"), looks := false }, kinds := [], alts := [], laidByText := true, laidKinds := [.data], laidTests := true, laidLooks := .later }
def ShaPadsUptoCardSaid : Prop := Claim7.holds Tryd.pinned (.plain (OpenSpec.upto shaPadsSpec)) shaPadsUptoCard

/-- THE SECOND FORM's CARD OF 'spyglasslaw03.ShaNone'. -/
def shaNoneUptoCard : Claim7 := { stood := { row := shaNoneUptoRow, standIns := [], harness := (true, "4ac9a3e2010f1dc551c250a4f76b4b77724866b3cc316c29779dd9c93992bc67"), looks := false }, kinds := [], alts := [], laidByText := true, laidKinds := [.data], laidTests := true, laidLooks := .later }
def ShaNoneUptoCardSaid : Prop := Claim7.holds Tryd.pinned (.plain (OpenSpec.upto shaNoneSpec)) shaNoneUptoCard

/-- THE SECOND FORM's CARD OF 'spyglasslaw04.MacCodes'. -/
def macCodesUptoCard : Claim7 := { stood := { row := macCodesUptoRow, standIns := [], harness := (true, "4ac9a3e2010f1dc551c250a4f76b4b77724866b3cc316c29779dd9c93992bc67"), looks := false }, kinds := [], alts := [], laidByText := true, laidKinds := [.data], laidTests := true, laidLooks := .later }
def MacCodesUptoCardSaid : Prop := Claim7.holds Tryd.pinned (.plain (OpenSpec.upto macCodesSpec)) macCodesUptoCard

/-- THE SECOND FORM's CARD OF 'spyglasslaw04.MacSame'. -/
def macSameUptoCard : Claim7 := { stood := { row := macSameUptoRow, standIns := [], harness := (true, "4ac9a3e2010f1dc551c250a4f76b4b77724866b3cc316c29779dd9c93992bc67"), looks := false }, kinds := [], alts := [], laidByText := true, laidKinds := [.data], laidTests := true, laidLooks := .later }
def MacSameUptoCardSaid : Prop := Claim7.holds Tryd.pinned (.plain (OpenSpec.upto macSameSpec)) macSameUptoCard

/-- THE SECOND FORM's CARD OF 'spyglasslaw04.MacPieces'. -/
def macPiecesUptoCard : Claim7 := { stood := { row := macPiecesUptoRow, standIns := [], harness := (true, "4ac9a3e2010f1dc551c250a4f76b4b77724866b3cc316c29779dd9c93992bc67"), looks := false }, kinds := [], alts := [], laidByText := true, laidKinds := [.data], laidTests := true, laidLooks := .later }
def MacPiecesUptoCardSaid : Prop := Claim7.holds Tryd.pinned (.plain (OpenSpec.upto macPiecesSpec)) macPiecesUptoCard

/-- THE SECOND FORM's CARD OF 'spyglasslaw04.MacDerives'. -/
def macDerivesUptoCard : Claim7 := { stood := { row := macDerivesUptoRow, standIns := [], harness := (true, "4ac9a3e2010f1dc551c250a4f76b4b77724866b3cc316c29779dd9c93992bc67"), looks := false }, kinds := [], alts := [], laidByText := true, laidKinds := [.data], laidTests := true, laidLooks := .later }
def MacDerivesUptoCardSaid : Prop := Claim7.holds Tryd.pinned (.plain (OpenSpec.upto macDerivesSpec)) macDerivesUptoCard

/-- THE SECOND FORM's CARD OF 'spyglasslaw04.MacTold'. -/
def macToldUptoCard : Claim7 := { stood := { row := macToldUptoRow, standIns := [], harness := (true, "4ac9a3e2010f1dc551c250a4f76b4b77724866b3cc316c29779dd9c93992bc67"), looks := false }, kinds := [], alts := [], laidByText := true, laidKinds := [.data], laidTests := true, laidLooks := .later }
def MacToldUptoCardSaid : Prop := Claim7.holds Tryd.pinned (.plain (OpenSpec.upto macToldSpec)) macToldUptoCard
end Rows
end Go.Proofs.YtacindehajholaaDoor
