/-
  DERIVED. GIVEN WITH THE SEED: THE CARDS: each row of YtihjdjadmofefaaDoorRows.lean that lists a variable, with what it lists TIED to the program's text (the seventh form; the later family's looks); each row that meets fmt, with fmt's text TOLD by the authors' own Lean function (tested against real Go, not proved from fmt's source: count such statements apart). THE CARD IS WHAT COUNTS. Prove the row's statement (the work); the ties are given (YtihjdjadmofefaaDoorTie.lean); close each card by the builder's one call (the guide's Derived/Test/ToyasCard.lean, 'card_holds'). Laid BY PROGRAM, IN A SANDBOX (cutbox-door.mjs). By AI agents, Wed Nov 11 2026. No macro, syntax, notation, axiom, sorry.
-/
import Derived.Test.YtihjdjadmofefaaDoorRows
import GoSem.ClaimSeven
namespace Go.Proofs.YtihjdjadmofefaaDoor
namespace Rows

/-- THE TIED CARD OF 'busbarlaw11.PrinterMatchesReference'. -/
def printerMatchesReferenceCard : Claim7 := { stood := { row := printerMatchesReferenceRow, standIns := [], harness := (true, "d1ac99ae31bfca13d8185f124a0f2a30b9ec01fa603285b1627eae0c2d27811f"), looks := true }, kinds := [], alts := [], laidByText := true, laidKinds := [.data, .data, .data, .widerDeep, .widerDeep, .widerDeep], laidTests := true, laidLooks := .later }
def PrinterMatchesReferenceCardSaid : Prop := Claim7.holds Tryd.pinned (.plain (OpenSpec.ofChange printerMatchesReferenceSpec)) printerMatchesReferenceCard

/-- THE TIED CARD OF 'busbarlaw11.PrinterAppendRung'. -/
def printerAppendRungCard : Claim7 := { stood := { row := printerAppendRungRow, standIns := [], harness := (true, "d1ac99ae31bfca13d8185f124a0f2a30b9ec01fa603285b1627eae0c2d27811f"), looks := true }, kinds := [], alts := [], laidByText := true, laidKinds := [.data, .data, .data, .widerDeep, .widerDeep, .widerDeep], laidTests := true, laidLooks := .later }
def PrinterAppendRungCardSaid : Prop := Claim7.holds Tryd.pinned (.plain (OpenSpec.ofChange printerAppendRungSpec)) printerAppendRungCard

/-- THE TIED CARD OF 'busbarlaw11.PrinterEqualMatchesReference'. -/
def printerEqualMatchesReferenceCard : Claim7 := { stood := { row := printerEqualMatchesReferenceRow, standIns := [], harness := (true, "d1ac99ae31bfca13d8185f124a0f2a30b9ec01fa603285b1627eae0c2d27811f"), looks := true }, kinds := [], alts := [], laidByText := true, laidKinds := [.data, .data, .data, .widerDeep, .widerDeep, .widerDeep], laidTests := true, laidLooks := .later }
def PrinterEqualMatchesReferenceCardSaid : Prop := Claim7.holds Tryd.pinned (.plain (OpenSpec.ofChange printerEqualMatchesReferenceSpec)) printerEqualMatchesReferenceCard

/-- THE TIED CARD OF 'busbarlaw11.PrinterIsInjective'. -/
def printerIsInjectiveCard : Claim7 := { stood := { row := printerIsInjectiveRow, standIns := [], harness := (true, "d1ac99ae31bfca13d8185f124a0f2a30b9ec01fa603285b1627eae0c2d27811f"), looks := true }, kinds := [], alts := [], laidByText := true, laidKinds := [.data, .data, .data, .widerDeep, .widerDeep, .widerDeep], laidTests := true, laidLooks := .later }
def PrinterIsInjectiveCardSaid : Prop := Claim7.holds Tryd.pinned (.plain (OpenSpec.ofChange printerIsInjectiveSpec)) printerIsInjectiveCard

/-- THE TIED CARD OF 'busbarlaw01.AddrCheckIsMonotone'. -/
def addrCheckIsMonotoneCard : Claim7 := { stood := { row := addrCheckIsMonotoneRow, standIns := [], harness := (true, "d1ac99ae31bfca13d8185f124a0f2a30b9ec01fa603285b1627eae0c2d27811f"), looks := true }, kinds := [], alts := [], laidByText := true, laidKinds := [.data, .data, .data, .data, .sentinel, .sentinel, .widerDeep, .pinned], laidTests := true, laidLooks := .later }
def AddrCheckIsMonotoneCardSaid : Prop := Claim7.holds Tryd.pinned (.plain (OpenSpec.ofChange addrCheckIsMonotoneSpec)) addrCheckIsMonotoneCard

/-- THE TIED CARD OF 'busbarlaw01.AddrRoundTrip'. -/
def addrRoundTripCard : Claim7 := { stood := { row := addrRoundTripRow, standIns := [], harness := (true, "d1ac99ae31bfca13d8185f124a0f2a30b9ec01fa603285b1627eae0c2d27811f"), looks := true }, kinds := [], alts := [], laidByText := true, laidKinds := [.data, .data, .data, .data, .sentinel, .sentinel, .widerDeep, .pinned], laidTests := true, laidLooks := .later }
def AddrRoundTripCardSaid : Prop := Claim7.holds Tryd.pinned (.plain (OpenSpec.ofChange addrRoundTripSpec)) addrRoundTripCard

/-- THE SECOND FORM's CARD OF 'busbarlaw11.PrinterMatchesReference'. -/
def printerMatchesReferenceUptoCard : Claim7 := { stood := { row := printerMatchesReferenceUptoRow, standIns := [], harness := (true, "d1ac99ae31bfca13d8185f124a0f2a30b9ec01fa603285b1627eae0c2d27811f"), looks := true }, kinds := [], alts := [], laidByText := true, laidKinds := [.data, .data, .data, .widerDeep, .widerDeep, .widerDeep], laidTests := true, laidLooks := .later }
def PrinterMatchesReferenceUptoCardSaid : Prop := Claim7.holds Tryd.pinned (.plain (OpenSpec.upto printerMatchesReferenceSpec)) printerMatchesReferenceUptoCard

/-- THE SECOND FORM's CARD OF 'busbarlaw11.PrinterAppendRung'. -/
def printerAppendRungUptoCard : Claim7 := { stood := { row := printerAppendRungUptoRow, standIns := [], harness := (true, "d1ac99ae31bfca13d8185f124a0f2a30b9ec01fa603285b1627eae0c2d27811f"), looks := true }, kinds := [], alts := [], laidByText := true, laidKinds := [.data, .data, .data, .widerDeep, .widerDeep, .widerDeep], laidTests := true, laidLooks := .later }
def PrinterAppendRungUptoCardSaid : Prop := Claim7.holds Tryd.pinned (.plain (OpenSpec.upto printerAppendRungSpec)) printerAppendRungUptoCard

/-- THE SECOND FORM's CARD OF 'busbarlaw11.PrinterEqualMatchesReference'. -/
def printerEqualMatchesReferenceUptoCard : Claim7 := { stood := { row := printerEqualMatchesReferenceUptoRow, standIns := [], harness := (true, "d1ac99ae31bfca13d8185f124a0f2a30b9ec01fa603285b1627eae0c2d27811f"), looks := true }, kinds := [], alts := [], laidByText := true, laidKinds := [.data, .data, .data, .widerDeep, .widerDeep, .widerDeep], laidTests := true, laidLooks := .later }
def PrinterEqualMatchesReferenceUptoCardSaid : Prop := Claim7.holds Tryd.pinned (.plain (OpenSpec.upto printerEqualMatchesReferenceSpec)) printerEqualMatchesReferenceUptoCard

/-- THE SECOND FORM's CARD OF 'busbarlaw11.PrinterIsInjective'. -/
def printerIsInjectiveUptoCard : Claim7 := { stood := { row := printerIsInjectiveUptoRow, standIns := [], harness := (true, "d1ac99ae31bfca13d8185f124a0f2a30b9ec01fa603285b1627eae0c2d27811f"), looks := true }, kinds := [], alts := [], laidByText := true, laidKinds := [.data, .data, .data, .widerDeep, .widerDeep, .widerDeep], laidTests := true, laidLooks := .later }
def PrinterIsInjectiveUptoCardSaid : Prop := Claim7.holds Tryd.pinned (.plain (OpenSpec.upto printerIsInjectiveSpec)) printerIsInjectiveUptoCard

/-- THE SECOND FORM's CARD OF 'busbarlaw01.AddrCheckIsMonotone'. -/
def addrCheckIsMonotoneUptoCard : Claim7 := { stood := { row := addrCheckIsMonotoneUptoRow, standIns := [], harness := (true, "d1ac99ae31bfca13d8185f124a0f2a30b9ec01fa603285b1627eae0c2d27811f"), looks := true }, kinds := [], alts := [], laidByText := true, laidKinds := [.data, .data, .data, .data, .sentinel, .sentinel, .widerDeep, .pinned], laidTests := true, laidLooks := .later }
def AddrCheckIsMonotoneUptoCardSaid : Prop := Claim7.holds Tryd.pinned (.plain (OpenSpec.upto addrCheckIsMonotoneSpec)) addrCheckIsMonotoneUptoCard

/-- THE SECOND FORM's CARD OF 'busbarlaw01.AddrRoundTrip'. -/
def addrRoundTripUptoCard : Claim7 := { stood := { row := addrRoundTripUptoRow, standIns := [], harness := (true, "d1ac99ae31bfca13d8185f124a0f2a30b9ec01fa603285b1627eae0c2d27811f"), looks := true }, kinds := [], alts := [], laidByText := true, laidKinds := [.data, .data, .data, .data, .sentinel, .sentinel, .widerDeep, .pinned], laidTests := true, laidLooks := .later }
def AddrRoundTripUptoCardSaid : Prop := Claim7.holds Tryd.pinned (.plain (OpenSpec.upto addrRoundTripSpec)) addrRoundTripUptoCard
end Rows
end Go.Proofs.YtihjdjadmofefaaDoor
