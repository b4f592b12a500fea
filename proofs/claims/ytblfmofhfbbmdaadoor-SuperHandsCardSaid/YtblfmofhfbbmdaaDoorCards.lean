/-
  DERIVED. GIVEN WITH THE SEED: THE CARDS: each row of YtblfmofhfbbmdaaDoorRows.lean that lists a variable, with what it lists TIED to the program's text (the seventh form; the later family's looks); each row that meets fmt, with fmt's text TOLD by the authors' own Lean function (tested against real Go, not proved from fmt's source: count such statements apart). THE CARD IS WHAT COUNTS. Prove the row's statement (the work); the ties are given (YtblfmofhfbbmdaaDoorTie.lean); close each card by the builder's one call (the guide's Derived/Test/ToyasCard.lean, 'card_holds'). Laid BY PROGRAM, IN A SANDBOX (cutbox-door.mjs). By AI agents, Wed Nov 11 2026. No macro, syntax, notation, axiom, sorry.
-/
import Derived.Test.YtblfmofhfbbmdaaDoorRows
import GoSem.ClaimSeven
namespace Go.Proofs.YtblfmofhfbbmdaaDoor
namespace Rows

/-- THE TIED CARD OF 'wicketlaw02.SumNames'. -/
def sumNamesCard : Claim7 := { stood := { row := sumNamesRow, standIns := [], harness := (true, "8f4b15e1a84ba516ce8b2b66a67513073436a107b5a0a60d01bc6c1e42401e3e"), looks := false }, kinds := [], alts := [], laidByText := true, laidKinds := [.data], laidTests := true, laidLooks := .later }
def SumNamesCardSaid : Prop := Claim7.holds Tryd.pinned (.plain (OpenSpec.ofChange sumNamesSpec)) sumNamesCard

/-- THE TIED CARD OF 'wicketlaw02.SumParts'. -/
def sumPartsCard : Claim7 := { stood := { row := sumPartsRow, standIns := [], harness := (true, "8f4b15e1a84ba516ce8b2b66a67513073436a107b5a0a60d01bc6c1e42401e3e"), looks := false }, kinds := [], alts := [], laidByText := true, laidKinds := [.data], laidTests := true, laidLooks := .later }
def SumPartsCardSaid : Prop := Claim7.holds Tryd.pinned (.plain (OpenSpec.ofChange sumPartsSpec)) sumPartsCard

/-- THE TIED CARD OF 'wicketlaw02.SumJoins'. -/
def sumJoinsCard : Claim7 := { stood := { row := sumJoinsRow, standIns := [], harness := (true, "8f4b15e1a84ba516ce8b2b66a67513073436a107b5a0a60d01bc6c1e42401e3e"), looks := false }, kinds := [], alts := [], laidByText := true, laidKinds := [.data], laidTests := true, laidLooks := .later }
def SumJoinsCardSaid : Prop := Claim7.holds Tryd.pinned (.plain (OpenSpec.ofChange sumJoinsSpec)) sumJoinsCard

/-- THE TIED CARD OF 'wicketlaw02.SumTexts'. -/
def sumTextsCard : Claim7 := { stood := { row := sumTextsRow, standIns := [], harness := (true, "8f4b15e1a84ba516ce8b2b66a67513073436a107b5a0a60d01bc6c1e42401e3e"), looks := false }, kinds := [], alts := [], laidByText := true, laidKinds := [.data], laidTests := true, laidLooks := .later }
def SumTextsCardSaid : Prop := Claim7.holds Tryd.pinned (.plain (OpenSpec.ofChange sumTextsSpec)) sumTextsCard

/-- THE TIED CARD OF 'wicketlaw02.SumTurns'. -/
def sumTurnsCard : Claim7 := { stood := { row := sumTurnsRow, standIns := [], harness := (true, "8f4b15e1a84ba516ce8b2b66a67513073436a107b5a0a60d01bc6c1e42401e3e"), looks := false }, kinds := [], alts := [], laidByText := true, laidKinds := [.data], laidTests := true, laidLooks := .later }
def SumTurnsCardSaid : Prop := Claim7.holds Tryd.pinned (.plain (OpenSpec.ofChange sumTurnsSpec)) sumTurnsCard

/-- THE TIED CARD OF 'wicketlaw02.SumBursts'. -/
def sumBurstsCard : Claim7 := { stood := { row := sumBurstsRow, standIns := [], harness := (true, "8f4b15e1a84ba516ce8b2b66a67513073436a107b5a0a60d01bc6c1e42401e3e"), looks := false }, kinds := [], alts := [], laidByText := true, laidKinds := [.data], laidTests := true, laidLooks := .later }
def SumBurstsCardSaid : Prop := Claim7.holds Tryd.pinned (.plain (OpenSpec.ofChange sumBurstsSpec)) sumBurstsCard

/-- THE TIED CARD OF 'wicketlaw07.SuperTurned'. -/
def superTurnedCard : Claim7 := { stood := { row := superTurnedRow, standIns := [], harness := (true, "8f4b15e1a84ba516ce8b2b66a67513073436a107b5a0a60d01bc6c1e42401e3e"), looks := false }, kinds := [], alts := [], laidByText := true, laidKinds := [.data, .data], laidTests := true, laidLooks := .later }
def SuperTurnedCardSaid : Prop := Claim7.holds Tryd.pinned (.plain (OpenSpec.ofChange superTurnedSpec)) superTurnedCard

/-- THE TIED CARD OF 'wicketlaw07.SuperHands'. -/
def superHandsCard : Claim7 := { stood := { row := superHandsRow, standIns := [], harness := (true, "8f4b15e1a84ba516ce8b2b66a67513073436a107b5a0a60d01bc6c1e42401e3e"), looks := false }, kinds := [], alts := [], laidByText := true, laidKinds := [.data, .data], laidTests := true, laidLooks := .later }
def SuperHandsCardSaid : Prop := Claim7.holds Tryd.pinned (.plain (OpenSpec.ofChange superHandsSpec)) superHandsCard

/-- THE TIED CARD OF 'wicketlaw06.RecordNames'. -/
def recordNamesCard : Claim7 := { stood := { row := recordNamesRow, standIns := [], harness := (true, "8f4b15e1a84ba516ce8b2b66a67513073436a107b5a0a60d01bc6c1e42401e3e"), looks := false }, kinds := [], alts := [], laidByText := true, laidKinds := [.data], laidTests := true, laidLooks := .later }
def RecordNamesCardSaid : Prop := Claim7.holds Tryd.pinned (.plain (OpenSpec.ofChange recordNamesSpec)) recordNamesCard

/-- THE TIED CARD OF 'wicketlaw06.RecordEncodes'. -/
def recordEncodesCard : Claim7 := { stood := { row := recordEncodesRow, standIns := [], harness := (true, "8f4b15e1a84ba516ce8b2b66a67513073436a107b5a0a60d01bc6c1e42401e3e"), looks := false }, kinds := [], alts := [], laidByText := true, laidKinds := [.data], laidTests := true, laidLooks := .later }
def RecordEncodesCardSaid : Prop := Claim7.holds Tryd.pinned (.plain (OpenSpec.ofChange recordEncodesSpec)) recordEncodesCard

/-- THE TIED CARD OF 'wicketlaw06.RecordDecodes'. -/
def recordDecodesCard : Claim7 := { stood := { row := recordDecodesRow, standIns := [], harness := (true, "8f4b15e1a84ba516ce8b2b66a67513073436a107b5a0a60d01bc6c1e42401e3e"), looks := false }, kinds := [], alts := [], laidByText := true, laidKinds := [.data], laidTests := true, laidLooks := .later }
def RecordDecodesCardSaid : Prop := Claim7.holds Tryd.pinned (.plain (OpenSpec.ofChange recordDecodesSpec)) recordDecodesCard

/-- THE TIED CARD OF 'wicketlaw06.RecordBack'. -/
def recordBackCard : Claim7 := { stood := { row := recordBackRow, standIns := [], harness := (true, "8f4b15e1a84ba516ce8b2b66a67513073436a107b5a0a60d01bc6c1e42401e3e"), looks := false }, kinds := [], alts := [], laidByText := true, laidKinds := [.data], laidTests := true, laidLooks := .later }
def RecordBackCardSaid : Prop := Claim7.holds Tryd.pinned (.plain (OpenSpec.ofChange recordBackSpec)) recordBackCard

/-- THE TIED CARD OF 'wicketlaw06.RecordOneForm'. -/
def recordOneFormCard : Claim7 := { stood := { row := recordOneFormRow, standIns := [], harness := (true, "8f4b15e1a84ba516ce8b2b66a67513073436a107b5a0a60d01bc6c1e42401e3e"), looks := false }, kinds := [], alts := [], laidByText := true, laidKinds := [.data], laidTests := true, laidLooks := .later }
def RecordOneFormCardSaid : Prop := Claim7.holds Tryd.pinned (.plain (OpenSpec.ofChange recordOneFormSpec)) recordOneFormCard

/-- THE TIED CARD OF 'wicketlaw07.SuperEncodes'. -/
def superEncodesCard : Claim7 := { stood := { row := superEncodesRow, standIns := [], harness := (true, "8f4b15e1a84ba516ce8b2b66a67513073436a107b5a0a60d01bc6c1e42401e3e"), looks := false }, kinds := [], alts := [], laidByText := true, laidKinds := [.data, .data], laidTests := true, laidLooks := .later }
def SuperEncodesCardSaid : Prop := Claim7.holds Tryd.pinned (.plain (OpenSpec.ofChange superEncodesSpec)) superEncodesCard

/-- THE TIED CARD OF 'wicketlaw07.SuperDecodes'. -/
def superDecodesCard : Claim7 := { stood := { row := superDecodesRow, standIns := [], harness := (true, "8f4b15e1a84ba516ce8b2b66a67513073436a107b5a0a60d01bc6c1e42401e3e"), looks := false }, kinds := [], alts := [], laidByText := true, laidKinds := [.data, .data], laidTests := true, laidLooks := .later }
def SuperDecodesCardSaid : Prop := Claim7.holds Tryd.pinned (.plain (OpenSpec.ofChange superDecodesSpec)) superDecodesCard

/-- THE TIED CARD OF 'wicketlaw07.SuperForged'. -/
def superForgedCard : Claim7 := { stood := { row := superForgedRow, standIns := [], harness := (true, "8f4b15e1a84ba516ce8b2b66a67513073436a107b5a0a60d01bc6c1e42401e3e"), looks := false }, kinds := [], alts := [], laidByText := true, laidKinds := [.data, .data], laidTests := true, laidLooks := .later }
def SuperForgedCardSaid : Prop := Claim7.holds Tryd.pinned (.plain (OpenSpec.ofChange superForgedSpec)) superForgedCard

/-- THE TIED CARD OF 'wicketlaw07.SuperBack'. -/
def superBackCard : Claim7 := { stood := { row := superBackRow, standIns := [], harness := (true, "8f4b15e1a84ba516ce8b2b66a67513073436a107b5a0a60d01bc6c1e42401e3e"), looks := false }, kinds := [], alts := [], laidByText := true, laidKinds := [.data, .data], laidTests := true, laidLooks := .later }
def SuperBackCardSaid : Prop := Claim7.holds Tryd.pinned (.plain (OpenSpec.ofChange superBackSpec)) superBackCard

/-- THE SECOND FORM's CARD OF 'wicketlaw02.SumNames'. -/
def sumNamesUptoCard : Claim7 := { stood := { row := sumNamesUptoRow, standIns := [], harness := (true, "8f4b15e1a84ba516ce8b2b66a67513073436a107b5a0a60d01bc6c1e42401e3e"), looks := false }, kinds := [], alts := [], laidByText := true, laidKinds := [.data], laidTests := true, laidLooks := .later }
def SumNamesUptoCardSaid : Prop := Claim7.holds Tryd.pinned (.plain (OpenSpec.upto sumNamesSpec)) sumNamesUptoCard

/-- THE SECOND FORM's CARD OF 'wicketlaw02.SumParts'. -/
def sumPartsUptoCard : Claim7 := { stood := { row := sumPartsUptoRow, standIns := [], harness := (true, "8f4b15e1a84ba516ce8b2b66a67513073436a107b5a0a60d01bc6c1e42401e3e"), looks := false }, kinds := [], alts := [], laidByText := true, laidKinds := [.data], laidTests := true, laidLooks := .later }
def SumPartsUptoCardSaid : Prop := Claim7.holds Tryd.pinned (.plain (OpenSpec.upto sumPartsSpec)) sumPartsUptoCard

/-- THE SECOND FORM's CARD OF 'wicketlaw02.SumJoins'. -/
def sumJoinsUptoCard : Claim7 := { stood := { row := sumJoinsUptoRow, standIns := [], harness := (true, "8f4b15e1a84ba516ce8b2b66a67513073436a107b5a0a60d01bc6c1e42401e3e"), looks := false }, kinds := [], alts := [], laidByText := true, laidKinds := [.data], laidTests := true, laidLooks := .later }
def SumJoinsUptoCardSaid : Prop := Claim7.holds Tryd.pinned (.plain (OpenSpec.upto sumJoinsSpec)) sumJoinsUptoCard

/-- THE SECOND FORM's CARD OF 'wicketlaw02.SumTexts'. -/
def sumTextsUptoCard : Claim7 := { stood := { row := sumTextsUptoRow, standIns := [], harness := (true, "8f4b15e1a84ba516ce8b2b66a67513073436a107b5a0a60d01bc6c1e42401e3e"), looks := false }, kinds := [], alts := [], laidByText := true, laidKinds := [.data], laidTests := true, laidLooks := .later }
def SumTextsUptoCardSaid : Prop := Claim7.holds Tryd.pinned (.plain (OpenSpec.upto sumTextsSpec)) sumTextsUptoCard

/-- THE SECOND FORM's CARD OF 'wicketlaw02.SumTurns'. -/
def sumTurnsUptoCard : Claim7 := { stood := { row := sumTurnsUptoRow, standIns := [], harness := (true, "8f4b15e1a84ba516ce8b2b66a67513073436a107b5a0a60d01bc6c1e42401e3e"), looks := false }, kinds := [], alts := [], laidByText := true, laidKinds := [.data], laidTests := true, laidLooks := .later }
def SumTurnsUptoCardSaid : Prop := Claim7.holds Tryd.pinned (.plain (OpenSpec.upto sumTurnsSpec)) sumTurnsUptoCard

/-- THE SECOND FORM's CARD OF 'wicketlaw02.SumBursts'. -/
def sumBurstsUptoCard : Claim7 := { stood := { row := sumBurstsUptoRow, standIns := [], harness := (true, "8f4b15e1a84ba516ce8b2b66a67513073436a107b5a0a60d01bc6c1e42401e3e"), looks := false }, kinds := [], alts := [], laidByText := true, laidKinds := [.data], laidTests := true, laidLooks := .later }
def SumBurstsUptoCardSaid : Prop := Claim7.holds Tryd.pinned (.plain (OpenSpec.upto sumBurstsSpec)) sumBurstsUptoCard

/-- THE SECOND FORM's CARD OF 'wicketlaw07.SuperTurned'. -/
def superTurnedUptoCard : Claim7 := { stood := { row := superTurnedUptoRow, standIns := [], harness := (true, "8f4b15e1a84ba516ce8b2b66a67513073436a107b5a0a60d01bc6c1e42401e3e"), looks := false }, kinds := [], alts := [], laidByText := true, laidKinds := [.data, .data], laidTests := true, laidLooks := .later }
def SuperTurnedUptoCardSaid : Prop := Claim7.holds Tryd.pinned (.plain (OpenSpec.upto superTurnedSpec)) superTurnedUptoCard

/-- THE SECOND FORM's CARD OF 'wicketlaw07.SuperHands'. -/
def superHandsUptoCard : Claim7 := { stood := { row := superHandsUptoRow, standIns := [], harness := (true, "8f4b15e1a84ba516ce8b2b66a67513073436a107b5a0a60d01bc6c1e42401e3e"), looks := false }, kinds := [], alts := [], laidByText := true, laidKinds := [.data, .data], laidTests := true, laidLooks := .later }
def SuperHandsUptoCardSaid : Prop := Claim7.holds Tryd.pinned (.plain (OpenSpec.upto superHandsSpec)) superHandsUptoCard

/-- THE SECOND FORM's CARD OF 'wicketlaw06.RecordNames'. -/
def recordNamesUptoCard : Claim7 := { stood := { row := recordNamesUptoRow, standIns := [], harness := (true, "8f4b15e1a84ba516ce8b2b66a67513073436a107b5a0a60d01bc6c1e42401e3e"), looks := false }, kinds := [], alts := [], laidByText := true, laidKinds := [.data], laidTests := true, laidLooks := .later }
def RecordNamesUptoCardSaid : Prop := Claim7.holds Tryd.pinned (.plain (OpenSpec.upto recordNamesSpec)) recordNamesUptoCard

/-- THE SECOND FORM's CARD OF 'wicketlaw06.RecordEncodes'. -/
def recordEncodesUptoCard : Claim7 := { stood := { row := recordEncodesUptoRow, standIns := [], harness := (true, "8f4b15e1a84ba516ce8b2b66a67513073436a107b5a0a60d01bc6c1e42401e3e"), looks := false }, kinds := [], alts := [], laidByText := true, laidKinds := [.data], laidTests := true, laidLooks := .later }
def RecordEncodesUptoCardSaid : Prop := Claim7.holds Tryd.pinned (.plain (OpenSpec.upto recordEncodesSpec)) recordEncodesUptoCard

/-- THE SECOND FORM's CARD OF 'wicketlaw06.RecordDecodes'. -/
def recordDecodesUptoCard : Claim7 := { stood := { row := recordDecodesUptoRow, standIns := [], harness := (true, "8f4b15e1a84ba516ce8b2b66a67513073436a107b5a0a60d01bc6c1e42401e3e"), looks := false }, kinds := [], alts := [], laidByText := true, laidKinds := [.data], laidTests := true, laidLooks := .later }
def RecordDecodesUptoCardSaid : Prop := Claim7.holds Tryd.pinned (.plain (OpenSpec.upto recordDecodesSpec)) recordDecodesUptoCard

/-- THE SECOND FORM's CARD OF 'wicketlaw06.RecordBack'. -/
def recordBackUptoCard : Claim7 := { stood := { row := recordBackUptoRow, standIns := [], harness := (true, "8f4b15e1a84ba516ce8b2b66a67513073436a107b5a0a60d01bc6c1e42401e3e"), looks := false }, kinds := [], alts := [], laidByText := true, laidKinds := [.data], laidTests := true, laidLooks := .later }
def RecordBackUptoCardSaid : Prop := Claim7.holds Tryd.pinned (.plain (OpenSpec.upto recordBackSpec)) recordBackUptoCard

/-- THE SECOND FORM's CARD OF 'wicketlaw06.RecordOneForm'. -/
def recordOneFormUptoCard : Claim7 := { stood := { row := recordOneFormUptoRow, standIns := [], harness := (true, "8f4b15e1a84ba516ce8b2b66a67513073436a107b5a0a60d01bc6c1e42401e3e"), looks := false }, kinds := [], alts := [], laidByText := true, laidKinds := [.data], laidTests := true, laidLooks := .later }
def RecordOneFormUptoCardSaid : Prop := Claim7.holds Tryd.pinned (.plain (OpenSpec.upto recordOneFormSpec)) recordOneFormUptoCard

/-- THE SECOND FORM's CARD OF 'wicketlaw07.SuperEncodes'. -/
def superEncodesUptoCard : Claim7 := { stood := { row := superEncodesUptoRow, standIns := [], harness := (true, "8f4b15e1a84ba516ce8b2b66a67513073436a107b5a0a60d01bc6c1e42401e3e"), looks := false }, kinds := [], alts := [], laidByText := true, laidKinds := [.data, .data], laidTests := true, laidLooks := .later }
def SuperEncodesUptoCardSaid : Prop := Claim7.holds Tryd.pinned (.plain (OpenSpec.upto superEncodesSpec)) superEncodesUptoCard

/-- THE SECOND FORM's CARD OF 'wicketlaw07.SuperDecodes'. -/
def superDecodesUptoCard : Claim7 := { stood := { row := superDecodesUptoRow, standIns := [], harness := (true, "8f4b15e1a84ba516ce8b2b66a67513073436a107b5a0a60d01bc6c1e42401e3e"), looks := false }, kinds := [], alts := [], laidByText := true, laidKinds := [.data, .data], laidTests := true, laidLooks := .later }
def SuperDecodesUptoCardSaid : Prop := Claim7.holds Tryd.pinned (.plain (OpenSpec.upto superDecodesSpec)) superDecodesUptoCard

/-- THE SECOND FORM's CARD OF 'wicketlaw07.SuperForged'. -/
def superForgedUptoCard : Claim7 := { stood := { row := superForgedUptoRow, standIns := [], harness := (true, "8f4b15e1a84ba516ce8b2b66a67513073436a107b5a0a60d01bc6c1e42401e3e"), looks := false }, kinds := [], alts := [], laidByText := true, laidKinds := [.data, .data], laidTests := true, laidLooks := .later }
def SuperForgedUptoCardSaid : Prop := Claim7.holds Tryd.pinned (.plain (OpenSpec.upto superForgedSpec)) superForgedUptoCard

/-- THE SECOND FORM's CARD OF 'wicketlaw07.SuperBack'. -/
def superBackUptoCard : Claim7 := { stood := { row := superBackUptoRow, standIns := [], harness := (true, "8f4b15e1a84ba516ce8b2b66a67513073436a107b5a0a60d01bc6c1e42401e3e"), looks := false }, kinds := [], alts := [], laidByText := true, laidKinds := [.data, .data], laidTests := true, laidLooks := .later }
def SuperBackUptoCardSaid : Prop := Claim7.holds Tryd.pinned (.plain (OpenSpec.upto superBackSpec)) superBackUptoCard
end Rows
end Go.Proofs.YtblfmofhfbbmdaaDoor
