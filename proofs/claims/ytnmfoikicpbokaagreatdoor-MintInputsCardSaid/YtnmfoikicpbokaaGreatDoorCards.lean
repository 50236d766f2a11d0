/-
  DERIVED. GIVEN WITH THE SEED: THE CARDS: each row of YtnmfoikicpbokaaGreatDoorRows.lean that lists a variable, with what it lists TIED to the program's text (the seventh form; the later family's looks); each row that meets fmt, with fmt's text TOLD by the authors' own Lean function (tested against real Go, not proved from fmt's source: count such statements apart). THE CARD IS WHAT COUNTS. Prove the row's statement (the work); the ties are given (YtnmfoikicpbokaaGreatDoorTie.lean); close each card by the builder's one call (the guide's Derived/Test/ToyasCard.lean, 'card_holds'). Laid BY PROGRAM, IN A SANDBOX (cutbox-door.mjs). By AI agents, Wed Nov 11 2026. No macro, syntax, notation, axiom, sorry.
-/
import Derived.Test.YtnmfoikicpbokaaGreatDoorRows
import GoSem.ClaimSeven
namespace Go.Proofs.YtnmfoikicpbokaaGreatDoor
namespace Rows

/-- THE TIED CARD OF 'truantlaw30.MintGrows'. -/
def mintGrowsCard : Claim7 := { stood := { row := mintGrowsRow, standIns := [], harness := (true, "08a8d8ec34f054a52a034cb59f4acd0406933405011a0914c0047cd39aef67d0"), looks := true }, kinds := [], alts := [], laidByText := true, laidKinds := [.data, .data, .data, .data, .sentinel, .sentinel, .pinned], laidTests := true, laidLooks := .later }
def MintGrowsCardSaid : Prop := Claim7.holds Tryz.pinned (.plain (OpenSpec.ofChange mintGrowsSpec)) mintGrowsCard

/-- THE TIED CARD OF 'truantlaw30.MintInputs'. -/
def mintInputsCard : Claim7 := { stood := { row := mintInputsRow, standIns := [], harness := (true, "08a8d8ec34f054a52a034cb59f4acd0406933405011a0914c0047cd39aef67d0"), looks := true }, kinds := [], alts := [], laidByText := true, laidKinds := [.data, .data, .data, .data, .sentinel, .sentinel, .pinned], laidTests := true, laidLooks := .later }
def MintInputsCardSaid : Prop := Claim7.holds Tryz.pinned (.plain (OpenSpec.ofChange mintInputsSpec)) mintInputsCard

/-- THE TIED CARD OF 'truantlaw30.MintExact'. -/
def mintExactCard : Claim7 := { stood := { row := mintExactRow, standIns := [], harness := (true, "08a8d8ec34f054a52a034cb59f4acd0406933405011a0914c0047cd39aef67d0"), looks := true }, kinds := [], alts := [], laidByText := true, laidKinds := [.data, .data, .data, .data, .sentinel, .sentinel, .pinned], laidTests := true, laidLooks := .later }
def MintExactCardSaid : Prop := Claim7.holds Tryz.pinned (.plain (OpenSpec.ofChange mintExactSpec)) mintExactCard

/-- THE SECOND FORM's CARD OF 'truantlaw30.MintGrows'. -/
def mintGrowsUptoCard : Claim7 := { stood := { row := mintGrowsUptoRow, standIns := [], harness := (true, "08a8d8ec34f054a52a034cb59f4acd0406933405011a0914c0047cd39aef67d0"), looks := true }, kinds := [], alts := [], laidByText := true, laidKinds := [.data, .data, .data, .data, .sentinel, .sentinel, .pinned], laidTests := true, laidLooks := .later }
def MintGrowsUptoCardSaid : Prop := Claim7.holds Tryz.pinned (.plain (OpenSpec.upto mintGrowsSpec)) mintGrowsUptoCard

/-- THE SECOND FORM's CARD OF 'truantlaw30.MintInputs'. -/
def mintInputsUptoCard : Claim7 := { stood := { row := mintInputsUptoRow, standIns := [], harness := (true, "08a8d8ec34f054a52a034cb59f4acd0406933405011a0914c0047cd39aef67d0"), looks := true }, kinds := [], alts := [], laidByText := true, laidKinds := [.data, .data, .data, .data, .sentinel, .sentinel, .pinned], laidTests := true, laidLooks := .later }
def MintInputsUptoCardSaid : Prop := Claim7.holds Tryz.pinned (.plain (OpenSpec.upto mintInputsSpec)) mintInputsUptoCard

/-- THE SECOND FORM's CARD OF 'truantlaw30.MintExact'. -/
def mintExactUptoCard : Claim7 := { stood := { row := mintExactUptoRow, standIns := [], harness := (true, "08a8d8ec34f054a52a034cb59f4acd0406933405011a0914c0047cd39aef67d0"), looks := true }, kinds := [], alts := [], laidByText := true, laidKinds := [.data, .data, .data, .data, .sentinel, .sentinel, .pinned], laidTests := true, laidLooks := .later }
def MintExactUptoCardSaid : Prop := Claim7.holds Tryz.pinned (.plain (OpenSpec.upto mintExactSpec)) mintExactUptoCard
end Rows
end Go.Proofs.YtnmfoikicpbokaaGreatDoor
