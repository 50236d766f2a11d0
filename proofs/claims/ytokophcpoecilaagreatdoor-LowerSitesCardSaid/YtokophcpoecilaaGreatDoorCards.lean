/-
  DERIVED. GIVEN WITH THE SEED: THE CARDS: each row of YtokophcpoecilaaGreatDoorRows.lean that lists a variable, with what it lists TIED to the program's text (the seventh form; the later family's looks); each row that meets fmt, with fmt's text TOLD by the authors' own Lean function (tested against real Go, not proved from fmt's source: count such statements apart). THE CARD IS WHAT COUNTS. Prove the row's statement (the work); the ties are given (YtokophcpoecilaaGreatDoorTie.lean); close each card by the builder's one call (the guide's Derived/Test/ToyasCard.lean, 'card_holds'). Laid BY PROGRAM, IN A SANDBOX (cutbox-door.mjs). By AI agents, Wed Nov 11 2026. No macro, syntax, notation, axiom, sorry.
-/
import Derived.Test.YtokophcpoecilaaGreatDoorRows
import GoSem.ClaimSeven
namespace Go.Proofs.YtokophcpoecilaaGreatDoor
namespace Rows

/-- THE TIED CARD OF 'truantlaw14.LowerSites'. -/
def lowerSitesCard : Claim7 := { stood := { row := lowerSitesRow, standIns := [], harness := (true, "5bc0abb8a72baa341370df0b755791615af069781b6980fcc65cb9a8582c7a7d"), looks := true }, kinds := [], alts := [], laidByText := true, laidKinds := [.data, .data, .data, .data, .sentinel, .sentinel, .pinned], laidTests := true, laidLooks := .later }
def LowerSitesCardSaid : Prop := Claim7.holds Tryz.pinned (.plain (OpenSpec.ofChange lowerSitesSpec)) lowerSitesCard

/-- THE SECOND FORM's CARD OF 'truantlaw14.LowerSites'. -/
def lowerSitesUptoCard : Claim7 := { stood := { row := lowerSitesUptoRow, standIns := [], harness := (true, "5bc0abb8a72baa341370df0b755791615af069781b6980fcc65cb9a8582c7a7d"), looks := true }, kinds := [], alts := [], laidByText := true, laidKinds := [.data, .data, .data, .data, .sentinel, .sentinel, .pinned], laidTests := true, laidLooks := .later }
def LowerSitesUptoCardSaid : Prop := Claim7.holds Tryz.pinned (.plain (OpenSpec.upto lowerSitesSpec)) lowerSitesUptoCard
end Rows
end Go.Proofs.YtokophcpoecilaaGreatDoor
