/-
  DERIVED. GIVEN WITH THE SEED: THE CARDS: each row of YtappdmioncdefaaDoorRows.lean that lists a variable, with what it lists TIED to the program's text (the seventh form; the later family's looks); each row that meets fmt, with fmt's text TOLD by the authors' own Lean function (tested against real Go, not proved from fmt's source: count such statements apart). THE CARD IS WHAT COUNTS. Prove the row's statement (the work); the ties are given (YtappdmioncdefaaDoorTie.lean); close each card by the builder's one call (the guide's Derived/Test/ToyasCard.lean, 'card_holds'). Laid BY PROGRAM, IN A SANDBOX (cutbox-door.mjs). By AI agents, Wed Nov 11 2026. No macro, syntax, notation, axiom, sorry.
-/
import Derived.Test.YtappdmioncdefaaDoorRows
import GoSem.ClaimSeven
namespace Go.Proofs.YtappdmioncdefaaDoor
namespace Rows

/-- THE TIED CARD OF 'carlinglaw04.FaceTexts'. -/
def faceTextsCard : Claim7 := { stood := { row := faceTextsRow, standIns := [], harness := (true, "a55027a57d5b07b9cf0a41da976c5cc0a577819f9f430b96545a6359e1ecdb98"), looks := true }, kinds := [], alts := [], laidByText := true, laidKinds := [.data, .data, .data, .data, .sentinel, .sentinel, .pinned], laidTests := true, laidLooks := .later }
def FaceTextsCardSaid : Prop := Claim7.holds Tryd.pinned (.plain (OpenSpec.ofChange faceTextsSpec)) faceTextsCard

/-- THE TIED CARD OF 'carlinglaw04.FaceReads'. -/
def faceReadsCard : Claim7 := { stood := { row := faceReadsRow, standIns := [], harness := (true, "a55027a57d5b07b9cf0a41da976c5cc0a577819f9f430b96545a6359e1ecdb98"), looks := true }, kinds := [], alts := [], laidByText := true, laidKinds := [.data, .data, .data, .data, .sentinel, .sentinel, .pinned], laidTests := true, laidLooks := .later }
def FaceReadsCardSaid : Prop := Claim7.holds Tryd.pinned (.plain (OpenSpec.ofChange faceReadsSpec)) faceReadsCard

/-- THE TIED CARD OF 'carlinglaw04.FaceBack'. -/
def faceBackCard : Claim7 := { stood := { row := faceBackRow, standIns := [], harness := (true, "a55027a57d5b07b9cf0a41da976c5cc0a577819f9f430b96545a6359e1ecdb98"), looks := true }, kinds := [], alts := [], laidByText := true, laidKinds := [.data, .data, .data, .data, .sentinel, .sentinel, .pinned], laidTests := true, laidLooks := .later }
def FaceBackCardSaid : Prop := Claim7.holds Tryd.pinned (.plain (OpenSpec.ofChange faceBackSpec)) faceBackCard

/-- THE TIED CARD OF 'carlinglaw04.FaceAgain'. -/
def faceAgainCard : Claim7 := { stood := { row := faceAgainRow, standIns := [], harness := (true, "a55027a57d5b07b9cf0a41da976c5cc0a577819f9f430b96545a6359e1ecdb98"), looks := true }, kinds := [], alts := [], laidByText := true, laidKinds := [.data, .data, .data, .data, .sentinel, .sentinel, .pinned], laidTests := true, laidLooks := .later }
def FaceAgainCardSaid : Prop := Claim7.holds Tryd.pinned (.plain (OpenSpec.ofChange faceAgainSpec)) faceAgainCard

/-- THE TIED CARD OF 'carlinglaw04.FaceJoins'. -/
def faceJoinsCard : Claim7 := { stood := { row := faceJoinsRow, standIns := [], harness := (true, "a55027a57d5b07b9cf0a41da976c5cc0a577819f9f430b96545a6359e1ecdb98"), looks := true }, kinds := [], alts := [], laidByText := true, laidKinds := [.data, .data, .data, .data, .sentinel, .sentinel, .pinned], laidTests := true, laidLooks := .later }
def FaceJoinsCardSaid : Prop := Claim7.holds Tryd.pinned (.plain (OpenSpec.ofChange faceJoinsSpec)) faceJoinsCard

/-- THE TIED CARD OF 'carlinglaw04.FaceFind'. -/
def faceFindCard : Claim7 := { stood := { row := faceFindRow, standIns := [], harness := (true, "a55027a57d5b07b9cf0a41da976c5cc0a577819f9f430b96545a6359e1ecdb98"), looks := true }, kinds := [], alts := [], laidByText := true, laidKinds := [.data, .data, .data, .data, .sentinel, .sentinel, .pinned], laidTests := true, laidLooks := .later }
def FaceFindCardSaid : Prop := Claim7.holds Tryd.pinned (.plain (OpenSpec.ofChange faceFindSpec)) faceFindCard

/-- THE TIED CARD OF 'carlinglaw04.FaceSigs'. -/
def faceSigsCard : Claim7 := { stood := { row := faceSigsRow, standIns := [], harness := (true, "a55027a57d5b07b9cf0a41da976c5cc0a577819f9f430b96545a6359e1ecdb98"), looks := true }, kinds := [], alts := [], laidByText := true, laidKinds := [.data, .data, .data, .data, .sentinel, .sentinel, .pinned], laidTests := true, laidLooks := .later }
def FaceSigsCardSaid : Prop := Claim7.holds Tryd.pinned (.plain (OpenSpec.ofChange faceSigsSpec)) faceSigsCard

/-- THE SECOND FORM's CARD OF 'carlinglaw04.FaceTexts'. -/
def faceTextsUptoCard : Claim7 := { stood := { row := faceTextsUptoRow, standIns := [], harness := (true, "a55027a57d5b07b9cf0a41da976c5cc0a577819f9f430b96545a6359e1ecdb98"), looks := true }, kinds := [], alts := [], laidByText := true, laidKinds := [.data, .data, .data, .data, .sentinel, .sentinel, .pinned], laidTests := true, laidLooks := .later }
def FaceTextsUptoCardSaid : Prop := Claim7.holds Tryd.pinned (.plain (OpenSpec.upto faceTextsSpec)) faceTextsUptoCard

/-- THE SECOND FORM's CARD OF 'carlinglaw04.FaceReads'. -/
def faceReadsUptoCard : Claim7 := { stood := { row := faceReadsUptoRow, standIns := [], harness := (true, "a55027a57d5b07b9cf0a41da976c5cc0a577819f9f430b96545a6359e1ecdb98"), looks := true }, kinds := [], alts := [], laidByText := true, laidKinds := [.data, .data, .data, .data, .sentinel, .sentinel, .pinned], laidTests := true, laidLooks := .later }
def FaceReadsUptoCardSaid : Prop := Claim7.holds Tryd.pinned (.plain (OpenSpec.upto faceReadsSpec)) faceReadsUptoCard

/-- THE SECOND FORM's CARD OF 'carlinglaw04.FaceBack'. -/
def faceBackUptoCard : Claim7 := { stood := { row := faceBackUptoRow, standIns := [], harness := (true, "a55027a57d5b07b9cf0a41da976c5cc0a577819f9f430b96545a6359e1ecdb98"), looks := true }, kinds := [], alts := [], laidByText := true, laidKinds := [.data, .data, .data, .data, .sentinel, .sentinel, .pinned], laidTests := true, laidLooks := .later }
def FaceBackUptoCardSaid : Prop := Claim7.holds Tryd.pinned (.plain (OpenSpec.upto faceBackSpec)) faceBackUptoCard

/-- THE SECOND FORM's CARD OF 'carlinglaw04.FaceAgain'. -/
def faceAgainUptoCard : Claim7 := { stood := { row := faceAgainUptoRow, standIns := [], harness := (true, "a55027a57d5b07b9cf0a41da976c5cc0a577819f9f430b96545a6359e1ecdb98"), looks := true }, kinds := [], alts := [], laidByText := true, laidKinds := [.data, .data, .data, .data, .sentinel, .sentinel, .pinned], laidTests := true, laidLooks := .later }
def FaceAgainUptoCardSaid : Prop := Claim7.holds Tryd.pinned (.plain (OpenSpec.upto faceAgainSpec)) faceAgainUptoCard

/-- THE SECOND FORM's CARD OF 'carlinglaw04.FaceJoins'. -/
def faceJoinsUptoCard : Claim7 := { stood := { row := faceJoinsUptoRow, standIns := [], harness := (true, "a55027a57d5b07b9cf0a41da976c5cc0a577819f9f430b96545a6359e1ecdb98"), looks := true }, kinds := [], alts := [], laidByText := true, laidKinds := [.data, .data, .data, .data, .sentinel, .sentinel, .pinned], laidTests := true, laidLooks := .later }
def FaceJoinsUptoCardSaid : Prop := Claim7.holds Tryd.pinned (.plain (OpenSpec.upto faceJoinsSpec)) faceJoinsUptoCard

/-- THE SECOND FORM's CARD OF 'carlinglaw04.FaceFind'. -/
def faceFindUptoCard : Claim7 := { stood := { row := faceFindUptoRow, standIns := [], harness := (true, "a55027a57d5b07b9cf0a41da976c5cc0a577819f9f430b96545a6359e1ecdb98"), looks := true }, kinds := [], alts := [], laidByText := true, laidKinds := [.data, .data, .data, .data, .sentinel, .sentinel, .pinned], laidTests := true, laidLooks := .later }
def FaceFindUptoCardSaid : Prop := Claim7.holds Tryd.pinned (.plain (OpenSpec.upto faceFindSpec)) faceFindUptoCard

/-- THE SECOND FORM's CARD OF 'carlinglaw04.FaceSigs'. -/
def faceSigsUptoCard : Claim7 := { stood := { row := faceSigsUptoRow, standIns := [], harness := (true, "a55027a57d5b07b9cf0a41da976c5cc0a577819f9f430b96545a6359e1ecdb98"), looks := true }, kinds := [], alts := [], laidByText := true, laidKinds := [.data, .data, .data, .data, .sentinel, .sentinel, .pinned], laidTests := true, laidLooks := .later }
def FaceSigsUptoCardSaid : Prop := Claim7.holds Tryd.pinned (.plain (OpenSpec.upto faceSigsSpec)) faceSigsUptoCard
end Rows
end Go.Proofs.YtappdmioncdefaaDoor
