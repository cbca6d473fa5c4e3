/-
  DERIVED. GIVEN WITH THE SEED: THE CARDS: each row of YtodapmkdmkhhfaaGreatDoorRows.lean that lists a variable, with what it lists TIED to the program's text (the seventh form; the later family's looks); each row that meets fmt, with fmt's text TOLD by the authors' own Lean function (tested against real Go, not proved from fmt's source: count such statements apart). THE CARD IS WHAT COUNTS. Prove the row's statement (the work); the ties are given (YtodapmkdmkhhfaaGreatDoorTie.lean); close each card by the builder's one call (the guide's Derived/Test/ToyasCard.lean, 'card_holds'). Laid BY PROGRAM, IN A SANDBOX (cutbox-door.mjs). By AI agents, Wed Nov 11 2026. No macro, syntax, notation, axiom, sorry.
-/
import Derived.Test.YtodapmkdmkhhfaaGreatDoorRows
import GoSem.ClaimSeven
namespace Go.Proofs.YtodapmkdmkhhfaaGreatDoor
namespace Rows

/-- THE TIED CARD OF 'certpathlaw10.SubtreePermits'. -/
def subtreePermitsCard : Claim7 := { stood := { row := subtreePermitsRow, standIns := [], harness := (true, "2a54450bd337dc5d2f0f69267672f16a728d75bf63fbc28e9af29522c59e9ef6"), looks := false }, kinds := [], alts := [], laidByText := true, laidKinds := [.data, .pinned], laidTests := true, laidLooks := .later }
def SubtreePermitsCardSaid : Prop := Claim7.holds Tryz.pinned (.plain (OpenSpec.ofChange subtreePermitsSpec)) subtreePermitsCard

/-- THE TIED CARD OF 'certpathlaw10.SubtreeAll'. -/
def subtreeAllCard : Claim7 := { stood := { row := subtreeAllRow, standIns := [], harness := (true, "2a54450bd337dc5d2f0f69267672f16a728d75bf63fbc28e9af29522c59e9ef6"), looks := false }, kinds := [], alts := [], laidByText := true, laidKinds := [.data, .pinned], laidTests := true, laidLooks := .later }
def SubtreeAllCardSaid : Prop := Claim7.holds Tryz.pinned (.plain (OpenSpec.ofChange subtreeAllSpec)) subtreeAllCard

/-- THE TIED CARD OF 'certpathlaw10.SubtreeReduce'. -/
def subtreeReduceCard : Claim7 := { stood := { row := subtreeReduceRow, standIns := [], harness := (true, "2a54450bd337dc5d2f0f69267672f16a728d75bf63fbc28e9af29522c59e9ef6"), looks := false }, kinds := [], alts := [], laidByText := true, laidKinds := [.data, .pinned], laidTests := true, laidLooks := .later }
def SubtreeReduceCardSaid : Prop := Claim7.holds Tryz.pinned (.plain (OpenSpec.ofChange subtreeReduceSpec)) subtreeReduceCard

/-- THE TIED CARD OF 'certpathlaw09.GnameMatch'. -/
def gnameMatchCard : Claim7 := { stood := { row := gnameMatchRow, standIns := [], harness := (true, "2a54450bd337dc5d2f0f69267672f16a728d75bf63fbc28e9af29522c59e9ef6"), looks := false }, kinds := [], alts := [], laidByText := true, laidKinds := [.data, .pinned], laidTests := true, laidLooks := .later }
def GnameMatchCardSaid : Prop := Claim7.holds Tryz.pinned (.plain (OpenSpec.ofChange gnameMatchSpec)) gnameMatchCard

/-- THE TIED CARD OF 'certpathlaw09.GnameSame'. -/
def gnameSameCard : Claim7 := { stood := { row := gnameSameRow, standIns := [], harness := (true, "2a54450bd337dc5d2f0f69267672f16a728d75bf63fbc28e9af29522c59e9ef6"), looks := false }, kinds := [], alts := [], laidByText := true, laidKinds := [.data, .pinned], laidTests := true, laidLooks := .later }
def GnameSameCardSaid : Prop := Claim7.holds Tryz.pinned (.plain (OpenSpec.ofChange gnameSameSpec)) gnameSameCard

/-- THE SECOND FORM's CARD OF 'certpathlaw10.SubtreePermits'. -/
def subtreePermitsUptoCard : Claim7 := { stood := { row := subtreePermitsUptoRow, standIns := [], harness := (true, "2a54450bd337dc5d2f0f69267672f16a728d75bf63fbc28e9af29522c59e9ef6"), looks := false }, kinds := [], alts := [], laidByText := true, laidKinds := [.data, .pinned], laidTests := true, laidLooks := .later }
def SubtreePermitsUptoCardSaid : Prop := Claim7.holds Tryz.pinned (.plain (OpenSpec.upto subtreePermitsSpec)) subtreePermitsUptoCard

/-- THE SECOND FORM's CARD OF 'certpathlaw10.SubtreeAll'. -/
def subtreeAllUptoCard : Claim7 := { stood := { row := subtreeAllUptoRow, standIns := [], harness := (true, "2a54450bd337dc5d2f0f69267672f16a728d75bf63fbc28e9af29522c59e9ef6"), looks := false }, kinds := [], alts := [], laidByText := true, laidKinds := [.data, .pinned], laidTests := true, laidLooks := .later }
def SubtreeAllUptoCardSaid : Prop := Claim7.holds Tryz.pinned (.plain (OpenSpec.upto subtreeAllSpec)) subtreeAllUptoCard

/-- THE SECOND FORM's CARD OF 'certpathlaw10.SubtreeReduce'. -/
def subtreeReduceUptoCard : Claim7 := { stood := { row := subtreeReduceUptoRow, standIns := [], harness := (true, "2a54450bd337dc5d2f0f69267672f16a728d75bf63fbc28e9af29522c59e9ef6"), looks := false }, kinds := [], alts := [], laidByText := true, laidKinds := [.data, .pinned], laidTests := true, laidLooks := .later }
def SubtreeReduceUptoCardSaid : Prop := Claim7.holds Tryz.pinned (.plain (OpenSpec.upto subtreeReduceSpec)) subtreeReduceUptoCard

/-- THE SECOND FORM's CARD OF 'certpathlaw09.GnameMatch'. -/
def gnameMatchUptoCard : Claim7 := { stood := { row := gnameMatchUptoRow, standIns := [], harness := (true, "2a54450bd337dc5d2f0f69267672f16a728d75bf63fbc28e9af29522c59e9ef6"), looks := false }, kinds := [], alts := [], laidByText := true, laidKinds := [.data, .pinned], laidTests := true, laidLooks := .later }
def GnameMatchUptoCardSaid : Prop := Claim7.holds Tryz.pinned (.plain (OpenSpec.upto gnameMatchSpec)) gnameMatchUptoCard

/-- THE SECOND FORM's CARD OF 'certpathlaw09.GnameSame'. -/
def gnameSameUptoCard : Claim7 := { stood := { row := gnameSameUptoRow, standIns := [], harness := (true, "2a54450bd337dc5d2f0f69267672f16a728d75bf63fbc28e9af29522c59e9ef6"), looks := false }, kinds := [], alts := [], laidByText := true, laidKinds := [.data, .pinned], laidTests := true, laidLooks := .later }
def GnameSameUptoCardSaid : Prop := Claim7.holds Tryz.pinned (.plain (OpenSpec.upto gnameSameSpec)) gnameSameUptoCard
end Rows
end Go.Proofs.YtodapmkdmkhhfaaGreatDoor
