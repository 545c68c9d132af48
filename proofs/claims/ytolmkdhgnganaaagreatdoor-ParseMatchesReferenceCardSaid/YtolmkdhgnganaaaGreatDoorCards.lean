/-
  DERIVED. GIVEN WITH THE SEED: THE CARDS: each row of YtolmkdhgnganaaaGreatDoorRows.lean that lists a variable, with what it lists TIED to the program's text (the seventh form; the later family's looks); each row that meets fmt, with fmt's text TOLD by the authors' own Lean function (tested against real Go, not proved from fmt's source: count such statements apart). THE CARD IS WHAT COUNTS. Prove the row's statement (the work); the ties are given (YtolmkdhgnganaaaGreatDoorTie.lean); close each card by the builder's one call (the guide's Derived/Test/ToyasCard.lean, 'card_holds'). Laid BY PROGRAM, IN A SANDBOX (cutbox-door.mjs). By AI agents, Wed Nov 11 2026. No macro, syntax, notation, axiom, sorry.
-/
import Derived.Test.YtolmkdhgnganaaaGreatDoorRows
import GoSem.ClaimSeven
namespace Go.Proofs.YtolmkdhgnganaaaGreatDoor
namespace Rows

/-- THE TIED CARD OF 'busbarlaw11.PrinterRoundTrip'. -/
def printerRoundTripCard : Claim7 := { stood := { row := printerRoundTripRow, standIns := [], harness := (true, "7c238a0fc7a46157c3cbd85e6956d28e1467e89512d9e942c8ee679d4f4c7373"), looks := true }, kinds := [], alts := [], laidByText := true, laidKinds := [.data, .data, .data, .data, .sentinel, .sentinel, .listed, .data, .widerDeep, .widerDeep, .widerDeep, .pinned], laidTests := true, laidLooks := .later }
def PrinterRoundTripCardSaid : Prop := Claim7.holds Tryz.pinned (.plain (OpenSpec.ofChange printerRoundTripSpec)) printerRoundTripCard

/-- THE TIED CARD OF 'busbarlaw10.ParseFirstError'. -/
def parseFirstErrorCard : Claim7 := { stood := { row := parseFirstErrorRow, standIns := [], harness := (true, "7c238a0fc7a46157c3cbd85e6956d28e1467e89512d9e942c8ee679d4f4c7373"), looks := true }, kinds := [], alts := [], laidByText := true, laidKinds := [.data, .data, .data, .data, .sentinel, .sentinel, .listed, .data, .widerDeep, .widerDeep, .widerDeep, .pinned], laidTests := true, laidLooks := .later }
def ParseFirstErrorCardSaid : Prop := Claim7.holds Tryz.pinned (.plain (OpenSpec.ofChange parseFirstErrorSpec)) parseFirstErrorCard

/-- THE TIED CARD OF 'busbarlaw10.ParseMatchesReference'. -/
def parseMatchesReferenceCard : Claim7 := { stood := { row := parseMatchesReferenceRow, standIns := [], harness := (true, "7c238a0fc7a46157c3cbd85e6956d28e1467e89512d9e942c8ee679d4f4c7373"), looks := true }, kinds := [], alts := [], laidByText := true, laidKinds := [.data, .data, .data, .data, .sentinel, .sentinel, .listed, .data, .widerDeep, .widerDeep, .widerDeep, .pinned], laidTests := true, laidLooks := .later }
def ParseMatchesReferenceCardSaid : Prop := Claim7.holds Tryz.pinned (.plain (OpenSpec.ofChange parseMatchesReferenceSpec)) parseMatchesReferenceCard

/-- THE TIED CARD OF 'busbarlaw10.ParseCapacities'. -/
def parseCapacitiesCard : Claim7 := { stood := { row := parseCapacitiesRow, standIns := [], harness := (true, "7c238a0fc7a46157c3cbd85e6956d28e1467e89512d9e942c8ee679d4f4c7373"), looks := true }, kinds := [], alts := [], laidByText := true, laidKinds := [.data, .data, .data, .data, .sentinel, .sentinel, .listed, .data, .widerDeep, .widerDeep, .widerDeep, .pinned], laidTests := true, laidLooks := .later }
def ParseCapacitiesCardSaid : Prop := Claim7.holds Tryz.pinned (.plain (OpenSpec.ofChange parseCapacitiesSpec)) parseCapacitiesCard

/-- THE TIED CARD OF 'busbarlaw10.ParseIgnoresComments'. -/
def parseIgnoresCommentsCard : Claim7 := { stood := { row := parseIgnoresCommentsRow, standIns := [], harness := (true, "7c238a0fc7a46157c3cbd85e6956d28e1467e89512d9e942c8ee679d4f4c7373"), looks := true }, kinds := [], alts := [], laidByText := true, laidKinds := [.data, .data, .data, .data, .sentinel, .sentinel, .listed, .data, .widerDeep, .widerDeep, .widerDeep, .pinned], laidTests := true, laidLooks := .later }
def ParseIgnoresCommentsCardSaid : Prop := Claim7.holds Tryz.pinned (.plain (OpenSpec.ofChange parseIgnoresCommentsSpec)) parseIgnoresCommentsCard

/-- THE SECOND FORM's CARD OF 'busbarlaw11.PrinterRoundTrip'. -/
def printerRoundTripUptoCard : Claim7 := { stood := { row := printerRoundTripUptoRow, standIns := [], harness := (true, "7c238a0fc7a46157c3cbd85e6956d28e1467e89512d9e942c8ee679d4f4c7373"), looks := true }, kinds := [], alts := [], laidByText := true, laidKinds := [.data, .data, .data, .data, .sentinel, .sentinel, .listed, .data, .widerDeep, .widerDeep, .widerDeep, .pinned], laidTests := true, laidLooks := .later }
def PrinterRoundTripUptoCardSaid : Prop := Claim7.holds Tryz.pinned (.plain (OpenSpec.upto printerRoundTripSpec)) printerRoundTripUptoCard

/-- THE SECOND FORM's CARD OF 'busbarlaw10.ParseFirstError'. -/
def parseFirstErrorUptoCard : Claim7 := { stood := { row := parseFirstErrorUptoRow, standIns := [], harness := (true, "7c238a0fc7a46157c3cbd85e6956d28e1467e89512d9e942c8ee679d4f4c7373"), looks := true }, kinds := [], alts := [], laidByText := true, laidKinds := [.data, .data, .data, .data, .sentinel, .sentinel, .listed, .data, .widerDeep, .widerDeep, .widerDeep, .pinned], laidTests := true, laidLooks := .later }
def ParseFirstErrorUptoCardSaid : Prop := Claim7.holds Tryz.pinned (.plain (OpenSpec.upto parseFirstErrorSpec)) parseFirstErrorUptoCard

/-- THE SECOND FORM's CARD OF 'busbarlaw10.ParseMatchesReference'. -/
def parseMatchesReferenceUptoCard : Claim7 := { stood := { row := parseMatchesReferenceUptoRow, standIns := [], harness := (true, "7c238a0fc7a46157c3cbd85e6956d28e1467e89512d9e942c8ee679d4f4c7373"), looks := true }, kinds := [], alts := [], laidByText := true, laidKinds := [.data, .data, .data, .data, .sentinel, .sentinel, .listed, .data, .widerDeep, .widerDeep, .widerDeep, .pinned], laidTests := true, laidLooks := .later }
def ParseMatchesReferenceUptoCardSaid : Prop := Claim7.holds Tryz.pinned (.plain (OpenSpec.upto parseMatchesReferenceSpec)) parseMatchesReferenceUptoCard

/-- THE SECOND FORM's CARD OF 'busbarlaw10.ParseCapacities'. -/
def parseCapacitiesUptoCard : Claim7 := { stood := { row := parseCapacitiesUptoRow, standIns := [], harness := (true, "7c238a0fc7a46157c3cbd85e6956d28e1467e89512d9e942c8ee679d4f4c7373"), looks := true }, kinds := [], alts := [], laidByText := true, laidKinds := [.data, .data, .data, .data, .sentinel, .sentinel, .listed, .data, .widerDeep, .widerDeep, .widerDeep, .pinned], laidTests := true, laidLooks := .later }
def ParseCapacitiesUptoCardSaid : Prop := Claim7.holds Tryz.pinned (.plain (OpenSpec.upto parseCapacitiesSpec)) parseCapacitiesUptoCard

/-- THE SECOND FORM's CARD OF 'busbarlaw10.ParseIgnoresComments'. -/
def parseIgnoresCommentsUptoCard : Claim7 := { stood := { row := parseIgnoresCommentsUptoRow, standIns := [], harness := (true, "7c238a0fc7a46157c3cbd85e6956d28e1467e89512d9e942c8ee679d4f4c7373"), looks := true }, kinds := [], alts := [], laidByText := true, laidKinds := [.data, .data, .data, .data, .sentinel, .sentinel, .listed, .data, .widerDeep, .widerDeep, .widerDeep, .pinned], laidTests := true, laidLooks := .later }
def ParseIgnoresCommentsUptoCardSaid : Prop := Claim7.holds Tryz.pinned (.plain (OpenSpec.upto parseIgnoresCommentsSpec)) parseIgnoresCommentsUptoCard
end Rows
end Go.Proofs.YtolmkdhgnganaaaGreatDoor
