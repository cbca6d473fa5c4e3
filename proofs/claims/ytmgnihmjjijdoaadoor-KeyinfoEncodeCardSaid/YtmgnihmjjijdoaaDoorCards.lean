/-
  DERIVED. GIVEN WITH THE SEED: THE CARDS: each row of YtmgnihmjjijdoaaDoorRows.lean that lists a variable, with what it lists TIED to the program's text (the seventh form; the later family's looks); each row that meets fmt, with fmt's text TOLD by the authors' own Lean function (tested against real Go, not proved from fmt's source: count such statements apart). THE CARD IS WHAT COUNTS. Prove the row's statement (the work); the ties are given (YtmgnihmjjijdoaaDoorTie.lean); close each card by the builder's one call (the guide's Derived/Test/ToyasCard.lean, 'card_holds'). Laid BY PROGRAM, IN A SANDBOX (cutbox-door.mjs). By AI agents, Wed Nov 11 2026. No macro, syntax, notation, axiom, sorry.
-/
import Derived.Test.YtmgnihmjjijdoaaDoorRows
import GoSem.ClaimSeven
namespace Go.Proofs.YtmgnihmjjijdoaaDoor
namespace Rows

/-- THE TIED CARD OF 'certpathlaw14.KeyinfoEncode'. -/
def keyinfoEncodeCard : Claim7 := { stood := { row := keyinfoEncodeRow, standIns := [], harness := (true, "ddcba22b8f6a1144c86ce28b499e778879b97322fe0ed3e755a639149eb90998"), looks := false }, kinds := [], alts := [], laidByText := true, laidKinds := [.data, .data, .data, .data, .pinned], laidTests := true, laidLooks := .later }
def KeyinfoEncodeCardSaid : Prop := Claim7.holds Tryd.pinned (.plain (OpenSpec.ofChange keyinfoEncodeSpec)) keyinfoEncodeCard

/-- THE SECOND FORM's CARD OF 'certpathlaw14.KeyinfoEncode'. -/
def keyinfoEncodeUptoCard : Claim7 := { stood := { row := keyinfoEncodeUptoRow, standIns := [], harness := (true, "ddcba22b8f6a1144c86ce28b499e778879b97322fe0ed3e755a639149eb90998"), looks := false }, kinds := [], alts := [], laidByText := true, laidKinds := [.data, .data, .data, .data, .pinned], laidTests := true, laidLooks := .later }
def KeyinfoEncodeUptoCardSaid : Prop := Claim7.holds Tryd.pinned (.plain (OpenSpec.upto keyinfoEncodeSpec)) keyinfoEncodeUptoCard
end Rows
end Go.Proofs.YtmgnihmjjijdoaaDoor
