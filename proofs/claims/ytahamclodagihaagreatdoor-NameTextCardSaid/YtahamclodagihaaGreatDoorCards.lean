/-
  DERIVED. GIVEN WITH THE SEED: THE CARDS: each row of YtahamclodagihaaGreatDoorRows.lean that lists a variable, with what it lists TIED to the program's text (the seventh form; the later family's looks); each row that meets fmt, with fmt's text TOLD by the authors' own Lean function (tested against real Go, not proved from fmt's source: count such statements apart). THE CARD IS WHAT COUNTS. Prove the row's statement (the work); the ties are given (YtahamclodagihaaGreatDoorTie.lean); close each card by the builder's one call (the guide's Derived/Test/ToyasCard.lean, 'card_holds'). Laid BY PROGRAM, IN A SANDBOX (cutbox-door.mjs). By AI agents, Wed Nov 11 2026. No macro, syntax, notation, axiom, sorry.
-/
import Derived.Test.YtahamclodagihaaGreatDoorRows
import GoSem.ClaimSeven
namespace Go.Proofs.YtahamclodagihaaGreatDoor
namespace Rows

/-- THE TIED CARD OF 'certpathlaw07.NameCheck'. -/
def nameCheckCard : Claim7 := { stood := { row := nameCheckRow, standIns := [], harness := (true, "e731ab99525f89a1fc2367b2e052303601b5bcda6bd5e196d8a7266aee03e0f7"), looks := true }, kinds := [], alts := [], laidByText := true, laidKinds := [.data, .pinned], laidTests := true, laidLooks := .later }
def NameCheckCardSaid : Prop := Claim7.holds Tryz.pinned (.plain (OpenSpec.ofChange nameCheckSpec)) nameCheckCard

/-- THE TIED CARD OF 'certpathlaw07.NameText'. -/
def nameTextCard : Claim7 := { stood := { row := nameTextRow, standIns := [], harness := (true, "e731ab99525f89a1fc2367b2e052303601b5bcda6bd5e196d8a7266aee03e0f7"), looks := true }, kinds := [], alts := [], laidByText := true, laidKinds := [.data, .pinned], laidTests := true, laidLooks := .later }
def NameTextCardSaid : Prop := Claim7.holds Tryz.pinned (.plain (OpenSpec.ofChange nameTextSpec)) nameTextCard

/-- THE TIED CARD OF 'certpathlaw07.NameKey'. -/
def nameKeyCard : Claim7 := { stood := { row := nameKeyRow, standIns := [], harness := (true, "e731ab99525f89a1fc2367b2e052303601b5bcda6bd5e196d8a7266aee03e0f7"), looks := true }, kinds := [], alts := [], laidByText := true, laidKinds := [.data, .data, .data, .data, .pinned], laidTests := true, laidLooks := .later }
def NameKeyCardSaid : Prop := Claim7.holds Tryz.pinned (.plain (OpenSpec.ofChange nameKeySpec)) nameKeyCard

/-- THE TIED CARD OF 'certpathlaw10.SubtreeDecode'. -/
def subtreeDecodeCard : Claim7 := { stood := { row := subtreeDecodeRow, standIns := [], harness := (true, "e731ab99525f89a1fc2367b2e052303601b5bcda6bd5e196d8a7266aee03e0f7"), looks := true }, kinds := [], alts := [], laidByText := true, laidKinds := [.data, .data, .data, .data, .pinned], laidTests := true, laidLooks := .later }
def SubtreeDecodeCardSaid : Prop := Claim7.holds Tryz.pinned (.plain (OpenSpec.ofChange subtreeDecodeSpec)) subtreeDecodeCard

/-- THE TIED CARD OF 'certpathlaw10.SubtreeBack'. -/
def subtreeBackCard : Claim7 := { stood := { row := subtreeBackRow, standIns := [], harness := (true, "e731ab99525f89a1fc2367b2e052303601b5bcda6bd5e196d8a7266aee03e0f7"), looks := true }, kinds := [], alts := [], laidByText := true, laidKinds := [.data, .data, .data, .data, .pinned], laidTests := true, laidLooks := .later }
def SubtreeBackCardSaid : Prop := Claim7.holds Tryz.pinned (.plain (OpenSpec.ofChange subtreeBackSpec)) subtreeBackCard

/-- THE TIED CARD OF 'certpathlaw09.GnameText'. -/
def gnameTextCard : Claim7 := { stood := { row := gnameTextRow, standIns := [], harness := (true, "e731ab99525f89a1fc2367b2e052303601b5bcda6bd5e196d8a7266aee03e0f7"), looks := true }, kinds := [], alts := [], laidByText := true, laidKinds := [.data, .pinned], laidTests := true, laidLooks := .later }
def GnameTextCardSaid : Prop := Claim7.holds Tryz.pinned (.plain (OpenSpec.ofChange gnameTextSpec)) gnameTextCard

/-- THE TIED CARD OF 'certpathlaw09.GnameBack'. -/
def gnameBackCard : Claim7 := { stood := { row := gnameBackRow, standIns := [], harness := (true, "e731ab99525f89a1fc2367b2e052303601b5bcda6bd5e196d8a7266aee03e0f7"), looks := true }, kinds := [], alts := [], laidByText := true, laidKinds := [.data, .data, .data, .data, .pinned], laidTests := true, laidLooks := .later }
def GnameBackCardSaid : Prop := Claim7.holds Tryz.pinned (.plain (OpenSpec.ofChange gnameBackSpec)) gnameBackCard

/-- THE SECOND FORM's CARD OF 'certpathlaw07.NameCheck'. -/
def nameCheckUptoCard : Claim7 := { stood := { row := nameCheckUptoRow, standIns := [], harness := (true, "e731ab99525f89a1fc2367b2e052303601b5bcda6bd5e196d8a7266aee03e0f7"), looks := true }, kinds := [], alts := [], laidByText := true, laidKinds := [.data, .pinned], laidTests := true, laidLooks := .later }
def NameCheckUptoCardSaid : Prop := Claim7.holds Tryz.pinned (.plain (OpenSpec.upto nameCheckSpec)) nameCheckUptoCard

/-- THE SECOND FORM's CARD OF 'certpathlaw07.NameText'. -/
def nameTextUptoCard : Claim7 := { stood := { row := nameTextUptoRow, standIns := [], harness := (true, "e731ab99525f89a1fc2367b2e052303601b5bcda6bd5e196d8a7266aee03e0f7"), looks := true }, kinds := [], alts := [], laidByText := true, laidKinds := [.data, .pinned], laidTests := true, laidLooks := .later }
def NameTextUptoCardSaid : Prop := Claim7.holds Tryz.pinned (.plain (OpenSpec.upto nameTextSpec)) nameTextUptoCard

/-- THE SECOND FORM's CARD OF 'certpathlaw07.NameKey'. -/
def nameKeyUptoCard : Claim7 := { stood := { row := nameKeyUptoRow, standIns := [], harness := (true, "e731ab99525f89a1fc2367b2e052303601b5bcda6bd5e196d8a7266aee03e0f7"), looks := true }, kinds := [], alts := [], laidByText := true, laidKinds := [.data, .data, .data, .data, .pinned], laidTests := true, laidLooks := .later }
def NameKeyUptoCardSaid : Prop := Claim7.holds Tryz.pinned (.plain (OpenSpec.upto nameKeySpec)) nameKeyUptoCard

/-- THE SECOND FORM's CARD OF 'certpathlaw10.SubtreeDecode'. -/
def subtreeDecodeUptoCard : Claim7 := { stood := { row := subtreeDecodeUptoRow, standIns := [], harness := (true, "e731ab99525f89a1fc2367b2e052303601b5bcda6bd5e196d8a7266aee03e0f7"), looks := true }, kinds := [], alts := [], laidByText := true, laidKinds := [.data, .data, .data, .data, .pinned], laidTests := true, laidLooks := .later }
def SubtreeDecodeUptoCardSaid : Prop := Claim7.holds Tryz.pinned (.plain (OpenSpec.upto subtreeDecodeSpec)) subtreeDecodeUptoCard

/-- THE SECOND FORM's CARD OF 'certpathlaw10.SubtreeBack'. -/
def subtreeBackUptoCard : Claim7 := { stood := { row := subtreeBackUptoRow, standIns := [], harness := (true, "e731ab99525f89a1fc2367b2e052303601b5bcda6bd5e196d8a7266aee03e0f7"), looks := true }, kinds := [], alts := [], laidByText := true, laidKinds := [.data, .data, .data, .data, .pinned], laidTests := true, laidLooks := .later }
def SubtreeBackUptoCardSaid : Prop := Claim7.holds Tryz.pinned (.plain (OpenSpec.upto subtreeBackSpec)) subtreeBackUptoCard

/-- THE SECOND FORM's CARD OF 'certpathlaw09.GnameText'. -/
def gnameTextUptoCard : Claim7 := { stood := { row := gnameTextUptoRow, standIns := [], harness := (true, "e731ab99525f89a1fc2367b2e052303601b5bcda6bd5e196d8a7266aee03e0f7"), looks := true }, kinds := [], alts := [], laidByText := true, laidKinds := [.data, .pinned], laidTests := true, laidLooks := .later }
def GnameTextUptoCardSaid : Prop := Claim7.holds Tryz.pinned (.plain (OpenSpec.upto gnameTextSpec)) gnameTextUptoCard

/-- THE SECOND FORM's CARD OF 'certpathlaw09.GnameBack'. -/
def gnameBackUptoCard : Claim7 := { stood := { row := gnameBackUptoRow, standIns := [], harness := (true, "e731ab99525f89a1fc2367b2e052303601b5bcda6bd5e196d8a7266aee03e0f7"), looks := true }, kinds := [], alts := [], laidByText := true, laidKinds := [.data, .data, .data, .data, .pinned], laidTests := true, laidLooks := .later }
def GnameBackUptoCardSaid : Prop := Claim7.holds Tryz.pinned (.plain (OpenSpec.upto gnameBackSpec)) gnameBackUptoCard
end Rows
end Go.Proofs.YtahamclodagihaaGreatDoor
