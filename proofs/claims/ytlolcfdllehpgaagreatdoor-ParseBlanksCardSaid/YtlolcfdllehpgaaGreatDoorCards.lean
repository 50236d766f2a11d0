/-
  DERIVED. GIVEN WITH THE SEED: THE CARDS: each row of YtlolcfdllehpgaaGreatDoorRows.lean that lists a variable, with what it lists TIED to the program's text (the seventh form; the later family's looks); each row that meets fmt, with fmt's text TOLD by the authors' own Lean function (tested against real Go, not proved from fmt's source: count such statements apart). THE CARD IS WHAT COUNTS. Prove the row's statement (the work); the ties are given (YtlolcfdllehpgaaGreatDoorTie.lean); close each card by the builder's one call (the guide's Derived/Test/ToyasCard.lean, 'card_holds'). Laid BY PROGRAM, IN A SANDBOX (cutbox-door.mjs). By AI agents, Wed Nov 11 2026. No macro, syntax, notation, axiom, sorry.
-/
import Derived.Test.YtlolcfdllehpgaaGreatDoorRows
import GoSem.ClaimSeven
namespace Go.Proofs.YtlolcfdllehpgaaGreatDoor
namespace Rows

/-- THE TIED CARD OF 'truantlaw04.ParseSizes'. -/
def parseSizesCard : Claim7 := { stood := { row := parseSizesRow, standIns := [], harness := (true, "26c2c426393b33113cb34186aa6ba6bab0829adb80c5357782a1237c071229a9"), looks := true }, kinds := [], alts := [], laidByText := true, laidKinds := [.data, .data, .data, .data, .sentinel, .sentinel, .pinned], laidTests := true, laidLooks := .later }
def ParseSizesCardSaid : Prop := Claim7.holds Tryz.pinned (.plain (OpenSpec.ofChange parseSizesSpec)) parseSizesCard

/-- THE TIED CARD OF 'truantlaw04.ParseExact'. -/
def parseExactCard : Claim7 := { stood := { row := parseExactRow, standIns := [], harness := (true, "26c2c426393b33113cb34186aa6ba6bab0829adb80c5357782a1237c071229a9"), looks := true }, kinds := [], alts := [], laidByText := true, laidKinds := [.data, .data, .data, .data, .sentinel, .sentinel, .pinned], laidTests := true, laidLooks := .later }
def ParseExactCardSaid : Prop := Claim7.holds Tryz.pinned (.plain (OpenSpec.ofChange parseExactSpec)) parseExactCard

/-- THE TIED CARD OF 'truantlaw04.ParseBack'. -/
def parseBackCard : Claim7 := { stood := { row := parseBackRow, standIns := [], harness := (true, "26c2c426393b33113cb34186aa6ba6bab0829adb80c5357782a1237c071229a9"), looks := true }, kinds := [], alts := [], laidByText := true, laidKinds := [.data, .data, .data, .data, .sentinel, .sentinel, .pinned], laidTests := true, laidLooks := .later }
def ParseBackCardSaid : Prop := Claim7.holds Tryz.pinned (.plain (OpenSpec.ofChange parseBackSpec)) parseBackCard

/-- THE TIED CARD OF 'truantlaw04.ParseJoins'. -/
def parseJoinsCard : Claim7 := { stood := { row := parseJoinsRow, standIns := [], harness := (true, "26c2c426393b33113cb34186aa6ba6bab0829adb80c5357782a1237c071229a9"), looks := true }, kinds := [], alts := [], laidByText := true, laidKinds := [.data, .data, .data, .data, .sentinel, .sentinel, .pinned], laidTests := true, laidLooks := .later }
def ParseJoinsCardSaid : Prop := Claim7.holds Tryz.pinned (.plain (OpenSpec.ofChange parseJoinsSpec)) parseJoinsCard

/-- THE TIED CARD OF 'truantlaw04.ParseBlanks'. -/
def parseBlanksCard : Claim7 := { stood := { row := parseBlanksRow, standIns := [], harness := (true, "26c2c426393b33113cb34186aa6ba6bab0829adb80c5357782a1237c071229a9"), looks := true }, kinds := [], alts := [], laidByText := true, laidKinds := [.data, .data, .data, .data, .sentinel, .sentinel, .pinned], laidTests := true, laidLooks := .later }
def ParseBlanksCardSaid : Prop := Claim7.holds Tryz.pinned (.plain (OpenSpec.ofChange parseBlanksSpec)) parseBlanksCard

/-- THE SECOND FORM's CARD OF 'truantlaw04.ParseSizes'. -/
def parseSizesUptoCard : Claim7 := { stood := { row := parseSizesUptoRow, standIns := [], harness := (true, "26c2c426393b33113cb34186aa6ba6bab0829adb80c5357782a1237c071229a9"), looks := true }, kinds := [], alts := [], laidByText := true, laidKinds := [.data, .data, .data, .data, .sentinel, .sentinel, .pinned], laidTests := true, laidLooks := .later }
def ParseSizesUptoCardSaid : Prop := Claim7.holds Tryz.pinned (.plain (OpenSpec.upto parseSizesSpec)) parseSizesUptoCard

/-- THE SECOND FORM's CARD OF 'truantlaw04.ParseExact'. -/
def parseExactUptoCard : Claim7 := { stood := { row := parseExactUptoRow, standIns := [], harness := (true, "26c2c426393b33113cb34186aa6ba6bab0829adb80c5357782a1237c071229a9"), looks := true }, kinds := [], alts := [], laidByText := true, laidKinds := [.data, .data, .data, .data, .sentinel, .sentinel, .pinned], laidTests := true, laidLooks := .later }
def ParseExactUptoCardSaid : Prop := Claim7.holds Tryz.pinned (.plain (OpenSpec.upto parseExactSpec)) parseExactUptoCard

/-- THE SECOND FORM's CARD OF 'truantlaw04.ParseBack'. -/
def parseBackUptoCard : Claim7 := { stood := { row := parseBackUptoRow, standIns := [], harness := (true, "26c2c426393b33113cb34186aa6ba6bab0829adb80c5357782a1237c071229a9"), looks := true }, kinds := [], alts := [], laidByText := true, laidKinds := [.data, .data, .data, .data, .sentinel, .sentinel, .pinned], laidTests := true, laidLooks := .later }
def ParseBackUptoCardSaid : Prop := Claim7.holds Tryz.pinned (.plain (OpenSpec.upto parseBackSpec)) parseBackUptoCard

/-- THE SECOND FORM's CARD OF 'truantlaw04.ParseJoins'. -/
def parseJoinsUptoCard : Claim7 := { stood := { row := parseJoinsUptoRow, standIns := [], harness := (true, "26c2c426393b33113cb34186aa6ba6bab0829adb80c5357782a1237c071229a9"), looks := true }, kinds := [], alts := [], laidByText := true, laidKinds := [.data, .data, .data, .data, .sentinel, .sentinel, .pinned], laidTests := true, laidLooks := .later }
def ParseJoinsUptoCardSaid : Prop := Claim7.holds Tryz.pinned (.plain (OpenSpec.upto parseJoinsSpec)) parseJoinsUptoCard

/-- THE SECOND FORM's CARD OF 'truantlaw04.ParseBlanks'. -/
def parseBlanksUptoCard : Claim7 := { stood := { row := parseBlanksUptoRow, standIns := [], harness := (true, "26c2c426393b33113cb34186aa6ba6bab0829adb80c5357782a1237c071229a9"), looks := true }, kinds := [], alts := [], laidByText := true, laidKinds := [.data, .data, .data, .data, .sentinel, .sentinel, .pinned], laidTests := true, laidLooks := .later }
def ParseBlanksUptoCardSaid : Prop := Claim7.holds Tryz.pinned (.plain (OpenSpec.upto parseBlanksSpec)) parseBlanksUptoCard
end Rows
end Go.Proofs.YtlolcfdllehpgaaGreatDoor
