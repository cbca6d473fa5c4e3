/-
  DERIVED. GIVEN WITH THE SEED: THE CARDS: each row of YtbafpgdmnkkclaaDoorRows.lean that lists a variable, with what it lists TIED to the program's text (the seventh form; the later family's looks); each row that meets fmt, with fmt's text TOLD by the authors' own Lean function (tested against real Go, not proved from fmt's source: count such statements apart). THE CARD IS WHAT COUNTS. Prove the row's statement (the work); the ties are given (YtbafpgdmnkkclaaDoorTie.lean); close each card by the builder's one call (the guide's Derived/Test/ToyasCard.lean, 'card_holds'). Laid BY PROGRAM, IN A SANDBOX (cutbox-door.mjs). By AI agents, Wed Nov 11 2026. No macro, syntax, notation, axiom, sorry.
-/
import Derived.Test.YtbafpgdmnkkclaaDoorRows
import GoSem.ClaimSeven
namespace Go.Proofs.YtbafpgdmnkkclaaDoor
namespace Rows

/-- THE TIED CARD OF 'certpathlaw14.KeyinfoDecode'. -/
def keyinfoDecodeCard : Claim7 := { stood := { row := keyinfoDecodeRow, standIns := [], harness := (true, "a42fd5801e02f870c5cc9193ab810397e462d0d9a53c61c71f2b2358f05ae7d2"), looks := false }, kinds := [], alts := [], laidByText := true, laidKinds := [.data, .data, .data, .data, .pinned], laidTests := true, laidLooks := .later }
def KeyinfoDecodeCardSaid : Prop := Claim7.holds Tryd.pinned (.plain (OpenSpec.ofChange keyinfoDecodeSpec)) keyinfoDecodeCard

/-- THE TIED CARD OF 'certpathlaw14.KeyinfoAlgorithm'. -/
def keyinfoAlgorithmCard : Claim7 := { stood := { row := keyinfoAlgorithmRow, standIns := [], harness := (true, "a42fd5801e02f870c5cc9193ab810397e462d0d9a53c61c71f2b2358f05ae7d2"), looks := false }, kinds := [], alts := [], laidByText := true, laidKinds := [.data, .data, .data, .data, .pinned], laidTests := true, laidLooks := .later }
def KeyinfoAlgorithmCardSaid : Prop := Claim7.holds Tryd.pinned (.plain (OpenSpec.ofChange keyinfoAlgorithmSpec)) keyinfoAlgorithmCard

/-- THE TIED CARD OF 'certpathlaw14.KeyinfoBack'. -/
def keyinfoBackCard : Claim7 := { stood := { row := keyinfoBackRow, standIns := [], harness := (true, "a42fd5801e02f870c5cc9193ab810397e462d0d9a53c61c71f2b2358f05ae7d2"), looks := false }, kinds := [], alts := [], laidByText := true, laidKinds := [.data, .data, .data, .data, .pinned], laidTests := true, laidLooks := .later }
def KeyinfoBackCardSaid : Prop := Claim7.holds Tryd.pinned (.plain (OpenSpec.ofChange keyinfoBackSpec)) keyinfoBackCard

/-- THE TIED CARD OF 'certpathlaw14.KeyinfoEncode'. -/
def keyinfoEncodeCard : Claim7 := { stood := { row := keyinfoEncodeRow, standIns := [], harness := (true, "a42fd5801e02f870c5cc9193ab810397e462d0d9a53c61c71f2b2358f05ae7d2"), looks := false }, kinds := [], alts := [], laidByText := true, laidKinds := [.data, .data, .data, .data, .pinned], laidTests := true, laidLooks := .later }
def KeyinfoEncodeCardSaid : Prop := Claim7.holds Tryd.pinned (.plain (OpenSpec.ofChange keyinfoEncodeSpec)) keyinfoEncodeCard

/-- THE SECOND FORM's CARD OF 'certpathlaw14.KeyinfoDecode'. -/
def keyinfoDecodeUptoCard : Claim7 := { stood := { row := keyinfoDecodeUptoRow, standIns := [], harness := (true, "a42fd5801e02f870c5cc9193ab810397e462d0d9a53c61c71f2b2358f05ae7d2"), looks := false }, kinds := [], alts := [], laidByText := true, laidKinds := [.data, .data, .data, .data, .pinned], laidTests := true, laidLooks := .later }
def KeyinfoDecodeUptoCardSaid : Prop := Claim7.holds Tryd.pinned (.plain (OpenSpec.upto keyinfoDecodeSpec)) keyinfoDecodeUptoCard

/-- THE SECOND FORM's CARD OF 'certpathlaw14.KeyinfoAlgorithm'. -/
def keyinfoAlgorithmUptoCard : Claim7 := { stood := { row := keyinfoAlgorithmUptoRow, standIns := [], harness := (true, "a42fd5801e02f870c5cc9193ab810397e462d0d9a53c61c71f2b2358f05ae7d2"), looks := false }, kinds := [], alts := [], laidByText := true, laidKinds := [.data, .data, .data, .data, .pinned], laidTests := true, laidLooks := .later }
def KeyinfoAlgorithmUptoCardSaid : Prop := Claim7.holds Tryd.pinned (.plain (OpenSpec.upto keyinfoAlgorithmSpec)) keyinfoAlgorithmUptoCard

/-- THE SECOND FORM's CARD OF 'certpathlaw14.KeyinfoBack'. -/
def keyinfoBackUptoCard : Claim7 := { stood := { row := keyinfoBackUptoRow, standIns := [], harness := (true, "a42fd5801e02f870c5cc9193ab810397e462d0d9a53c61c71f2b2358f05ae7d2"), looks := false }, kinds := [], alts := [], laidByText := true, laidKinds := [.data, .data, .data, .data, .pinned], laidTests := true, laidLooks := .later }
def KeyinfoBackUptoCardSaid : Prop := Claim7.holds Tryd.pinned (.plain (OpenSpec.upto keyinfoBackSpec)) keyinfoBackUptoCard

/-- THE SECOND FORM's CARD OF 'certpathlaw14.KeyinfoEncode'. -/
def keyinfoEncodeUptoCard : Claim7 := { stood := { row := keyinfoEncodeUptoRow, standIns := [], harness := (true, "a42fd5801e02f870c5cc9193ab810397e462d0d9a53c61c71f2b2358f05ae7d2"), looks := false }, kinds := [], alts := [], laidByText := true, laidKinds := [.data, .data, .data, .data, .pinned], laidTests := true, laidLooks := .later }
def KeyinfoEncodeUptoCardSaid : Prop := Claim7.holds Tryd.pinned (.plain (OpenSpec.upto keyinfoEncodeSpec)) keyinfoEncodeUptoCard
end Rows
end Go.Proofs.YtbafpgdmnkkclaaDoor
