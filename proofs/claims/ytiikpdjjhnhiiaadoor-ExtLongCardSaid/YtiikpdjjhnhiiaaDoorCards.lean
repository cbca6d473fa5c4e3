/-
  DERIVED. GIVEN WITH THE SEED: THE CARDS: each row of YtiikpdjjhnhiiaaDoorRows.lean that lists a variable, with what it lists TIED to the program's text (the seventh form; the later family's looks); each row that meets fmt, with fmt's text TOLD by the authors' own Lean function (tested against real Go, not proved from fmt's source: count such statements apart). THE CARD IS WHAT COUNTS. Prove the row's statement (the work); the ties are given (YtiikpdjjhnhiiaaDoorTie.lean); close each card by the builder's one call (the guide's Derived/Test/ToyasCard.lean, 'card_holds'). Laid BY PROGRAM, IN A SANDBOX (cutbox-door.mjs). By AI agents, Wed Nov 11 2026. No macro, syntax, notation, axiom, sorry.
-/
import Derived.Test.YtiikpdjjhnhiiaaDoorRows
import GoSem.ClaimSeven
namespace Go.Proofs.YtiikpdjjhnhiiaaDoor
namespace Rows

/-- THE TIED CARD OF 'certpathlaw14.KeyinfoDecode'. -/
def keyinfoDecodeCard : Claim7 := { stood := { row := keyinfoDecodeRow, standIns := [], harness := (true, "691506a248a730f551d8efe29b9d8d079dd2c0d81beb1c7a04e767b700ef3409"), looks := false }, kinds := [], alts := [], laidByText := true, laidKinds := [.data, .data, .data, .data, .pinned], laidTests := true, laidLooks := .later }
def KeyinfoDecodeCardSaid : Prop := Claim7.holds Tryd.pinned (.plain (OpenSpec.ofChange keyinfoDecodeSpec)) keyinfoDecodeCard

/-- THE TIED CARD OF 'certpathlaw14.KeyinfoAlgorithm'. -/
def keyinfoAlgorithmCard : Claim7 := { stood := { row := keyinfoAlgorithmRow, standIns := [], harness := (true, "691506a248a730f551d8efe29b9d8d079dd2c0d81beb1c7a04e767b700ef3409"), looks := false }, kinds := [], alts := [], laidByText := true, laidKinds := [.data, .data, .data, .data, .pinned], laidTests := true, laidLooks := .later }
def KeyinfoAlgorithmCardSaid : Prop := Claim7.holds Tryd.pinned (.plain (OpenSpec.ofChange keyinfoAlgorithmSpec)) keyinfoAlgorithmCard

/-- THE TIED CARD OF 'certpathlaw14.KeyinfoBack'. -/
def keyinfoBackCard : Claim7 := { stood := { row := keyinfoBackRow, standIns := [], harness := (true, "691506a248a730f551d8efe29b9d8d079dd2c0d81beb1c7a04e767b700ef3409"), looks := false }, kinds := [], alts := [], laidByText := true, laidKinds := [.data, .data, .data, .data, .pinned], laidTests := true, laidLooks := .later }
def KeyinfoBackCardSaid : Prop := Claim7.holds Tryd.pinned (.plain (OpenSpec.ofChange keyinfoBackSpec)) keyinfoBackCard

/-- THE TIED CARD OF 'certpathlaw15.ExtLong'. -/
def extLongCard : Claim7 := { stood := { row := extLongRow, standIns := [], harness := (true, "691506a248a730f551d8efe29b9d8d079dd2c0d81beb1c7a04e767b700ef3409"), looks := false }, kinds := [], alts := [], laidByText := true, laidKinds := [.data, .data, .data, .data, .pinned], laidTests := true, laidLooks := .later }
def ExtLongCardSaid : Prop := Claim7.holds Tryd.pinned (.plain (OpenSpec.ofChange extLongSpec)) extLongCard

/-- THE TIED CARD OF 'certpathlaw15.ExtDecode'. -/
def extDecodeCard : Claim7 := { stood := { row := extDecodeRow, standIns := [], harness := (true, "691506a248a730f551d8efe29b9d8d079dd2c0d81beb1c7a04e767b700ef3409"), looks := false }, kinds := [], alts := [], laidByText := true, laidKinds := [.data, .data, .data, .data, .pinned], laidTests := true, laidLooks := .later }
def ExtDecodeCardSaid : Prop := Claim7.holds Tryd.pinned (.plain (OpenSpec.ofChange extDecodeSpec)) extDecodeCard

/-- THE TIED CARD OF 'certpathlaw15.ExtBack'. -/
def extBackCard : Claim7 := { stood := { row := extBackRow, standIns := [], harness := (true, "691506a248a730f551d8efe29b9d8d079dd2c0d81beb1c7a04e767b700ef3409"), looks := false }, kinds := [], alts := [], laidByText := true, laidKinds := [.data, .data, .data, .data, .pinned], laidTests := true, laidLooks := .later }
def ExtBackCardSaid : Prop := Claim7.holds Tryd.pinned (.plain (OpenSpec.ofChange extBackSpec)) extBackCard

/-- THE TIED CARD OF 'certpathlaw15.ExtCheck'. -/
def extCheckCard : Claim7 := { stood := { row := extCheckRow, standIns := [], harness := (true, "691506a248a730f551d8efe29b9d8d079dd2c0d81beb1c7a04e767b700ef3409"), looks := false }, kinds := [], alts := [], laidByText := true, laidKinds := [.data, .data, .data, .data, .pinned], laidTests := true, laidLooks := .later }
def ExtCheckCardSaid : Prop := Claim7.holds Tryd.pinned (.plain (OpenSpec.ofChange extCheckSpec)) extCheckCard

/-- THE TIED CARD OF 'certpathlaw14.KeyinfoEncode'. -/
def keyinfoEncodeCard : Claim7 := { stood := { row := keyinfoEncodeRow, standIns := [], harness := (true, "691506a248a730f551d8efe29b9d8d079dd2c0d81beb1c7a04e767b700ef3409"), looks := false }, kinds := [], alts := [], laidByText := true, laidKinds := [.data, .data, .data, .data, .pinned], laidTests := true, laidLooks := .later }
def KeyinfoEncodeCardSaid : Prop := Claim7.holds Tryd.pinned (.plain (OpenSpec.ofChange keyinfoEncodeSpec)) keyinfoEncodeCard

/-- THE SECOND FORM's CARD OF 'certpathlaw14.KeyinfoDecode'. -/
def keyinfoDecodeUptoCard : Claim7 := { stood := { row := keyinfoDecodeUptoRow, standIns := [], harness := (true, "691506a248a730f551d8efe29b9d8d079dd2c0d81beb1c7a04e767b700ef3409"), looks := false }, kinds := [], alts := [], laidByText := true, laidKinds := [.data, .data, .data, .data, .pinned], laidTests := true, laidLooks := .later }
def KeyinfoDecodeUptoCardSaid : Prop := Claim7.holds Tryd.pinned (.plain (OpenSpec.upto keyinfoDecodeSpec)) keyinfoDecodeUptoCard

/-- THE SECOND FORM's CARD OF 'certpathlaw14.KeyinfoAlgorithm'. -/
def keyinfoAlgorithmUptoCard : Claim7 := { stood := { row := keyinfoAlgorithmUptoRow, standIns := [], harness := (true, "691506a248a730f551d8efe29b9d8d079dd2c0d81beb1c7a04e767b700ef3409"), looks := false }, kinds := [], alts := [], laidByText := true, laidKinds := [.data, .data, .data, .data, .pinned], laidTests := true, laidLooks := .later }
def KeyinfoAlgorithmUptoCardSaid : Prop := Claim7.holds Tryd.pinned (.plain (OpenSpec.upto keyinfoAlgorithmSpec)) keyinfoAlgorithmUptoCard

/-- THE SECOND FORM's CARD OF 'certpathlaw14.KeyinfoBack'. -/
def keyinfoBackUptoCard : Claim7 := { stood := { row := keyinfoBackUptoRow, standIns := [], harness := (true, "691506a248a730f551d8efe29b9d8d079dd2c0d81beb1c7a04e767b700ef3409"), looks := false }, kinds := [], alts := [], laidByText := true, laidKinds := [.data, .data, .data, .data, .pinned], laidTests := true, laidLooks := .later }
def KeyinfoBackUptoCardSaid : Prop := Claim7.holds Tryd.pinned (.plain (OpenSpec.upto keyinfoBackSpec)) keyinfoBackUptoCard

/-- THE SECOND FORM's CARD OF 'certpathlaw15.ExtLong'. -/
def extLongUptoCard : Claim7 := { stood := { row := extLongUptoRow, standIns := [], harness := (true, "691506a248a730f551d8efe29b9d8d079dd2c0d81beb1c7a04e767b700ef3409"), looks := false }, kinds := [], alts := [], laidByText := true, laidKinds := [.data, .data, .data, .data, .pinned], laidTests := true, laidLooks := .later }
def ExtLongUptoCardSaid : Prop := Claim7.holds Tryd.pinned (.plain (OpenSpec.upto extLongSpec)) extLongUptoCard

/-- THE SECOND FORM's CARD OF 'certpathlaw15.ExtDecode'. -/
def extDecodeUptoCard : Claim7 := { stood := { row := extDecodeUptoRow, standIns := [], harness := (true, "691506a248a730f551d8efe29b9d8d079dd2c0d81beb1c7a04e767b700ef3409"), looks := false }, kinds := [], alts := [], laidByText := true, laidKinds := [.data, .data, .data, .data, .pinned], laidTests := true, laidLooks := .later }
def ExtDecodeUptoCardSaid : Prop := Claim7.holds Tryd.pinned (.plain (OpenSpec.upto extDecodeSpec)) extDecodeUptoCard

/-- THE SECOND FORM's CARD OF 'certpathlaw15.ExtBack'. -/
def extBackUptoCard : Claim7 := { stood := { row := extBackUptoRow, standIns := [], harness := (true, "691506a248a730f551d8efe29b9d8d079dd2c0d81beb1c7a04e767b700ef3409"), looks := false }, kinds := [], alts := [], laidByText := true, laidKinds := [.data, .data, .data, .data, .pinned], laidTests := true, laidLooks := .later }
def ExtBackUptoCardSaid : Prop := Claim7.holds Tryd.pinned (.plain (OpenSpec.upto extBackSpec)) extBackUptoCard

/-- THE SECOND FORM's CARD OF 'certpathlaw15.ExtCheck'. -/
def extCheckUptoCard : Claim7 := { stood := { row := extCheckUptoRow, standIns := [], harness := (true, "691506a248a730f551d8efe29b9d8d079dd2c0d81beb1c7a04e767b700ef3409"), looks := false }, kinds := [], alts := [], laidByText := true, laidKinds := [.data, .data, .data, .data, .pinned], laidTests := true, laidLooks := .later }
def ExtCheckUptoCardSaid : Prop := Claim7.holds Tryd.pinned (.plain (OpenSpec.upto extCheckSpec)) extCheckUptoCard

/-- THE SECOND FORM's CARD OF 'certpathlaw14.KeyinfoEncode'. -/
def keyinfoEncodeUptoCard : Claim7 := { stood := { row := keyinfoEncodeUptoRow, standIns := [], harness := (true, "691506a248a730f551d8efe29b9d8d079dd2c0d81beb1c7a04e767b700ef3409"), looks := false }, kinds := [], alts := [], laidByText := true, laidKinds := [.data, .data, .data, .data, .pinned], laidTests := true, laidLooks := .later }
def KeyinfoEncodeUptoCardSaid : Prop := Claim7.holds Tryd.pinned (.plain (OpenSpec.upto keyinfoEncodeSpec)) keyinfoEncodeUptoCard
end Rows
end Go.Proofs.YtiikpdjjhnhiiaaDoor
