/-
  DERIVED. GIVEN WITH THE SEED: THE CARDS: each row of YtmgnihmjjijdoaaGreatDoorRows.lean that lists a variable, with what it lists TIED to the program's text (the seventh form; the later family's looks); each row that meets fmt, with fmt's text TOLD by the authors' own Lean function (tested against real Go, not proved from fmt's source: count such statements apart). THE CARD IS WHAT COUNTS. Prove the row's statement (the work); the ties are given (YtmgnihmjjijdoaaGreatDoorTie.lean); close each card by the builder's one call (the guide's Derived/Test/ToyasCard.lean, 'card_holds'). Laid BY PROGRAM, IN A SANDBOX (cutbox-door.mjs). By AI agents, Wed Nov 11 2026. No macro, syntax, notation, axiom, sorry.
-/
import Derived.Test.YtmgnihmjjijdoaaGreatDoorRows
import GoSem.ClaimSeven
namespace Go.Proofs.YtmgnihmjjijdoaaGreatDoor
namespace Rows

/-- THE TIED CARD OF 'certpathlaw09.GnameText'. -/
def gnameTextCard : Claim7 := { stood := { row := gnameTextRow, standIns := [], harness := (true, "2f45badc180f726e8b2ea063cd81c46bca2fcb7c1cde275dceb438b8d974c5b4"), looks := false }, kinds := [], alts := [], laidByText := true, laidKinds := [.data, .pinned], laidTests := true, laidLooks := .later }
def GnameTextCardSaid : Prop := Claim7.holds Tryz.pinned (.plain (OpenSpec.ofChange gnameTextSpec)) gnameTextCard

/-- THE TIED CARD OF 'certpathlaw09.GnameBack'. -/
def gnameBackCard : Claim7 := { stood := { row := gnameBackRow, standIns := [], harness := (true, "2f45badc180f726e8b2ea063cd81c46bca2fcb7c1cde275dceb438b8d974c5b4"), looks := false }, kinds := [], alts := [], laidByText := true, laidKinds := [.data, .data, .data, .data, .pinned], laidTests := true, laidLooks := .later }
def GnameBackCardSaid : Prop := Claim7.holds Tryz.pinned (.plain (OpenSpec.ofChange gnameBackSpec)) gnameBackCard

/-- THE SECOND FORM's CARD OF 'certpathlaw09.GnameText'. -/
def gnameTextUptoCard : Claim7 := { stood := { row := gnameTextUptoRow, standIns := [], harness := (true, "2f45badc180f726e8b2ea063cd81c46bca2fcb7c1cde275dceb438b8d974c5b4"), looks := false }, kinds := [], alts := [], laidByText := true, laidKinds := [.data, .pinned], laidTests := true, laidLooks := .later }
def GnameTextUptoCardSaid : Prop := Claim7.holds Tryz.pinned (.plain (OpenSpec.upto gnameTextSpec)) gnameTextUptoCard

/-- THE SECOND FORM's CARD OF 'certpathlaw09.GnameBack'. -/
def gnameBackUptoCard : Claim7 := { stood := { row := gnameBackUptoRow, standIns := [], harness := (true, "2f45badc180f726e8b2ea063cd81c46bca2fcb7c1cde275dceb438b8d974c5b4"), looks := false }, kinds := [], alts := [], laidByText := true, laidKinds := [.data, .data, .data, .data, .pinned], laidTests := true, laidLooks := .later }
def GnameBackUptoCardSaid : Prop := Claim7.holds Tryz.pinned (.plain (OpenSpec.upto gnameBackSpec)) gnameBackUptoCard
end Rows
end Go.Proofs.YtmgnihmjjijdoaaGreatDoor
