/-
  DERIVED. GIVEN WITH THE SEED: THE CARDS: each row of YtepibepgfackkaaDoorRows.lean that lists a variable, with what it lists TIED to the program's text (the seventh form; the later family's looks); each row that meets fmt, with fmt's text TOLD by the authors' own Lean function (tested against real Go, not proved from fmt's source: count such statements apart). THE CARD IS WHAT COUNTS. Prove the row's statement (the work); the ties are given (YtepibepgfackkaaDoorTie.lean); close each card by the builder's one call (the guide's Derived/Test/ToyasCard.lean, 'card_holds'). Laid BY PROGRAM, IN A SANDBOX (cutbox-door.mjs). By AI agents, Wed Nov 11 2026. No macro, syntax, notation, axiom, sorry.
-/
import Derived.Test.YtepibepgfackkaaDoorRows
import GoSem.ClaimSeven
namespace Go.Proofs.YtepibepgfackkaaDoor
namespace Rows

/-- THE TIED CARD OF 'certpathlaw07.NameMany'. -/
def nameManyCard : Claim7 := { stood := { row := nameManyRow, standIns := [], harness := (true, "bfff7a530e0e9c7722e13a8831702d10c46e4146517ea999c0e75a940ee8921c"), looks := false }, kinds := [], alts := [], laidByText := true, laidKinds := [.data, .pinned], laidTests := true, laidLooks := .later }
def NameManyCardSaid : Prop := Claim7.holds Tryd.pinned (.plain (OpenSpec.ofChange nameManySpec)) nameManyCard

/-- THE TIED CARD OF 'certpathlaw07.NameMatch'. -/
def nameMatchCard : Claim7 := { stood := { row := nameMatchRow, standIns := [], harness := (true, "bfff7a530e0e9c7722e13a8831702d10c46e4146517ea999c0e75a940ee8921c"), looks := false }, kinds := [], alts := [], laidByText := true, laidKinds := [.data, .pinned], laidTests := true, laidLooks := .later }
def NameMatchCardSaid : Prop := Claim7.holds Tryd.pinned (.plain (OpenSpec.ofChange nameMatchSpec)) nameMatchCard

/-- THE TIED CARD OF 'certpathlaw07.NameOrder'. -/
def nameOrderCard : Claim7 := { stood := { row := nameOrderRow, standIns := [], harness := (true, "bfff7a530e0e9c7722e13a8831702d10c46e4146517ea999c0e75a940ee8921c"), looks := false }, kinds := [], alts := [], laidByText := true, laidKinds := [.data, .pinned], laidTests := true, laidLooks := .later }
def NameOrderCardSaid : Prop := Claim7.holds Tryd.pinned (.plain (OpenSpec.ofChange nameOrderSpec)) nameOrderCard

/-- THE TIED CARD OF 'certpathlaw07.NameParse'. -/
def nameParseCard : Claim7 := { stood := { row := nameParseRow, standIns := [], harness := (true, "bfff7a530e0e9c7722e13a8831702d10c46e4146517ea999c0e75a940ee8921c"), looks := false }, kinds := [], alts := [], laidByText := true, laidKinds := [.data, .pinned], laidTests := true, laidLooks := .later }
def NameParseCardSaid : Prop := Claim7.holds Tryd.pinned (.plain (OpenSpec.ofChange nameParseSpec)) nameParseCard

/-- THE TIED CARD OF 'certpathlaw10.SubtreeOrder'. -/
def subtreeOrderCard : Claim7 := { stood := { row := subtreeOrderRow, standIns := [], harness := (true, "bfff7a530e0e9c7722e13a8831702d10c46e4146517ea999c0e75a940ee8921c"), looks := false }, kinds := [], alts := [], laidByText := true, laidKinds := [.data, .pinned], laidTests := true, laidLooks := .later }
def SubtreeOrderCardSaid : Prop := Claim7.holds Tryd.pinned (.plain (OpenSpec.ofChange subtreeOrderSpec)) subtreeOrderCard

/-- THE TIED CARD OF 'certpathlaw10.SubtreeSame'. -/
def subtreeSameCard : Claim7 := { stood := { row := subtreeSameRow, standIns := [], harness := (true, "bfff7a530e0e9c7722e13a8831702d10c46e4146517ea999c0e75a940ee8921c"), looks := false }, kinds := [], alts := [], laidByText := true, laidKinds := [.data, .pinned], laidTests := true, laidLooks := .later }
def SubtreeSameCardSaid : Prop := Claim7.holds Tryd.pinned (.plain (OpenSpec.ofChange subtreeSameSpec)) subtreeSameCard

/-- THE SECOND FORM's CARD OF 'certpathlaw07.NameMany'. -/
def nameManyUptoCard : Claim7 := { stood := { row := nameManyUptoRow, standIns := [], harness := (true, "bfff7a530e0e9c7722e13a8831702d10c46e4146517ea999c0e75a940ee8921c"), looks := false }, kinds := [], alts := [], laidByText := true, laidKinds := [.data, .pinned], laidTests := true, laidLooks := .later }
def NameManyUptoCardSaid : Prop := Claim7.holds Tryd.pinned (.plain (OpenSpec.upto nameManySpec)) nameManyUptoCard

/-- THE SECOND FORM's CARD OF 'certpathlaw07.NameMatch'. -/
def nameMatchUptoCard : Claim7 := { stood := { row := nameMatchUptoRow, standIns := [], harness := (true, "bfff7a530e0e9c7722e13a8831702d10c46e4146517ea999c0e75a940ee8921c"), looks := false }, kinds := [], alts := [], laidByText := true, laidKinds := [.data, .pinned], laidTests := true, laidLooks := .later }
def NameMatchUptoCardSaid : Prop := Claim7.holds Tryd.pinned (.plain (OpenSpec.upto nameMatchSpec)) nameMatchUptoCard

/-- THE SECOND FORM's CARD OF 'certpathlaw07.NameOrder'. -/
def nameOrderUptoCard : Claim7 := { stood := { row := nameOrderUptoRow, standIns := [], harness := (true, "bfff7a530e0e9c7722e13a8831702d10c46e4146517ea999c0e75a940ee8921c"), looks := false }, kinds := [], alts := [], laidByText := true, laidKinds := [.data, .pinned], laidTests := true, laidLooks := .later }
def NameOrderUptoCardSaid : Prop := Claim7.holds Tryd.pinned (.plain (OpenSpec.upto nameOrderSpec)) nameOrderUptoCard

/-- THE SECOND FORM's CARD OF 'certpathlaw07.NameParse'. -/
def nameParseUptoCard : Claim7 := { stood := { row := nameParseUptoRow, standIns := [], harness := (true, "bfff7a530e0e9c7722e13a8831702d10c46e4146517ea999c0e75a940ee8921c"), looks := false }, kinds := [], alts := [], laidByText := true, laidKinds := [.data, .pinned], laidTests := true, laidLooks := .later }
def NameParseUptoCardSaid : Prop := Claim7.holds Tryd.pinned (.plain (OpenSpec.upto nameParseSpec)) nameParseUptoCard

/-- THE SECOND FORM's CARD OF 'certpathlaw10.SubtreeOrder'. -/
def subtreeOrderUptoCard : Claim7 := { stood := { row := subtreeOrderUptoRow, standIns := [], harness := (true, "bfff7a530e0e9c7722e13a8831702d10c46e4146517ea999c0e75a940ee8921c"), looks := false }, kinds := [], alts := [], laidByText := true, laidKinds := [.data, .pinned], laidTests := true, laidLooks := .later }
def SubtreeOrderUptoCardSaid : Prop := Claim7.holds Tryd.pinned (.plain (OpenSpec.upto subtreeOrderSpec)) subtreeOrderUptoCard

/-- THE SECOND FORM's CARD OF 'certpathlaw10.SubtreeSame'. -/
def subtreeSameUptoCard : Claim7 := { stood := { row := subtreeSameUptoRow, standIns := [], harness := (true, "bfff7a530e0e9c7722e13a8831702d10c46e4146517ea999c0e75a940ee8921c"), looks := false }, kinds := [], alts := [], laidByText := true, laidKinds := [.data, .pinned], laidTests := true, laidLooks := .later }
def SubtreeSameUptoCardSaid : Prop := Claim7.holds Tryd.pinned (.plain (OpenSpec.upto subtreeSameSpec)) subtreeSameUptoCard
end Rows
end Go.Proofs.YtepibepgfackkaaDoor
