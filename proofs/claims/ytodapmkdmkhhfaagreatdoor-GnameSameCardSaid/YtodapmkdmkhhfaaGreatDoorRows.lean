/-
  NARROWER THAN 'FOR EVERY INPUT', by the rows' own cells (each row's printed sentence says how): SubtreePermits: laid · SubtreeAll: laid · SubtreeReduce: laid · GnameMatch: laid · GnameSame: laid.
  DERIVED. THE GIVEN ROWS OF THIS SEAT. 5 by the template 'for every input the law returns true; each argument reads behind the call as it read before'; 0 by the template 'total and deterministic' (their statements: YtodapmkdmkhhfaaGreatDoorTotals.lean).
  GIVEN WITH THE SEED: the statements are not yours to turn. If you find one false, say at which input.
  Laid BY PROGRAM, IN A SANDBOX (cutbox-rows.mjs): the forced cells as the released guide's own fill.sh prints them over the translation a7bafb5111f86542… (all of the seat's roots in one cut). By AI agents, Wed Nov 11 2026. No macro, syntax, notation, axiom, sorry.
-/
import Derived.Test.YtodapmkdmkhhfaaGreatDoorChecked
import GoSem.PinnedTables
import GoSem.Claim
import GoSem.ClaimJoined
import GoSem.ClaimMapViews
import Derived.JoinedTies
import Derived.KernelRfl
namespace Go.Proofs.YtodapmkdmkhhfaaGreatDoor
/- THE CELL 'sum', in the pinned program and in every row, IS THE sha256 OF THE DUMP (.gsa) THAT YtodapmkdmkhhfaaGreatDoorProg.lean LOADS. Nothing in Lean hashes anything: it is a label: what it is worth is what the hold of that sum in a sandbox is worth. -/
noncomputable def Tryz.pinned : Pinned := { name := "ytodapmkdmkhhfaagreatdoor", sum := "a7bafb5111f865428632cd4e187e09fa3cb3667d00d86c3278669f815544a8a1", checked := Tryz.checked }
namespace Rows
def none {H : Type} : Left H := { results := [], args := [] }

/- WHAT THE LISTED PACKAGE-LEVEL VARIABLES READ AS WHEN THE CALL BEGINS. Each datum BY PROGRAM (the guide's laid-datum.mjs) off the statement by which the dump's own 'gosem.cut.vars' lays the variable. In a bare row this is a premise. The card (YtodapmkdmkhhfaaGreatDoorCards.lean) ties it to the program's text. -/
def laid_unicode_utf8_acceptRanges {H : Type} : DataW H := .agg [.agg [.lit (.int .u8 128), .lit (.int .u8 191)], .agg [.lit (.int .u8 160), .lit (.int .u8 191)], .agg [.lit (.int .u8 128), .lit (.int .u8 159)], .agg [.lit (.int .u8 144), .lit (.int .u8 191)], .agg [.lit (.int .u8 128), .lit (.int .u8 143)], .agg [.lit (.int .u8 0), .lit (.int .u8 0)], .agg [.lit (.int .u8 0), .lit (.int .u8 0)], .agg [.lit (.int .u8 0), .lit (.int .u8 0)], .agg [.lit (.int .u8 0), .lit (.int .u8 0)], .agg [.lit (.int .u8 0), .lit (.int .u8 0)], .agg [.lit (.int .u8 0), .lit (.int .u8 0)], .agg [.lit (.int .u8 0), .lit (.int .u8 0)], .agg [.lit (.int .u8 0), .lit (.int .u8 0)], .agg [.lit (.int .u8 0), .lit (.int .u8 0)], .agg [.lit (.int .u8 0), .lit (.int .u8 0)], .agg [.lit (.int .u8 0), .lit (.int .u8 0)]]
/-- One of Go's own tables, pinned by name: the form's constant. -/
def laid_unicode_utf8_first : DataW Unit := Go.Pinned.utf8First

/-- 'certpathlaw10.SubtreePermits': WHATEVER THE INPUT: true; the input reads as it did. -/
def subtreePermitsSpec : ChangeSpec := { name := "subtreePermits", fn := fun _ => fun
  | [d1, d2, d3, d4] => { results := [.lit (.bool true)], args := [d1, d2, d3, d4] }
  | _ => none }
def subtreePermitsRow : OpenClaim := { program := "ytodapmkdmkhhfaagreatdoor", sum := "a7bafb5111f865428632cd4e187e09fa3cb3667d00d86c3278669f815544a8a1", func := "certpath/certpathlaw10.SubtreePermits", spec := "subtreePermits", inPlace := ["internal/bytealg.IndexByteString", "internal/bytealg.IndexString", "internal/bytealg.CountString"], unfollowed := true, recurses := true, named := ["internal/bytealg.MaxLen", "unicode/utf8.first", "unicode/utf8.acceptRanges"], apart := false, laid := [("unicode/utf8.acceptRanges", laid_unicode_utf8_acceptRanges), ("unicode/utf8.first", laid_unicode_utf8_first)] }
def SubtreePermitsSaid : Prop := subtreePermitsRow.holds Tryz.pinned (OpenSpec.ofChange subtreePermitsSpec)

/-- ITS FALSE NEIGHBOUR: 'it returns false'. Refute it at one input. -/
def subtreePermitsWrong : ChangeSpec := { name := "subtreePermits", fn := fun _ => fun
  | [d1, d2, d3, d4] => { results := [.lit (.bool false)], args := [d1, d2, d3, d4] }
  | _ => none }
def SubtreePermitsWrongFalsely : Prop := subtreePermitsRow.holds Tryz.pinned (OpenSpec.ofChange subtreePermitsWrong)

/-- 'certpathlaw10.SubtreeAll': WHATEVER THE INPUT: true; the input reads as it did. -/
def subtreeAllSpec : ChangeSpec := { name := "subtreeAll", fn := fun _ => fun
  | [d1, d2, d3] => { results := [.lit (.bool true)], args := [d1, d2, d3] }
  | _ => none }
def subtreeAllRow : OpenClaim := { program := "ytodapmkdmkhhfaagreatdoor", sum := "a7bafb5111f865428632cd4e187e09fa3cb3667d00d86c3278669f815544a8a1", func := "certpath/certpathlaw10.SubtreeAll", spec := "subtreeAll", inPlace := ["internal/bytealg.IndexByteString", "internal/bytealg.IndexString", "internal/bytealg.CountString"], unfollowed := true, recurses := true, named := ["internal/bytealg.MaxLen", "unicode/utf8.first", "unicode/utf8.acceptRanges"], apart := false, laid := [("unicode/utf8.acceptRanges", laid_unicode_utf8_acceptRanges), ("unicode/utf8.first", laid_unicode_utf8_first)] }
def SubtreeAllSaid : Prop := subtreeAllRow.holds Tryz.pinned (OpenSpec.ofChange subtreeAllSpec)

/-- ITS FALSE NEIGHBOUR: 'it returns false'. Refute it at one input. -/
def subtreeAllWrong : ChangeSpec := { name := "subtreeAll", fn := fun _ => fun
  | [d1, d2, d3] => { results := [.lit (.bool false)], args := [d1, d2, d3] }
  | _ => none }
def SubtreeAllWrongFalsely : Prop := subtreeAllRow.holds Tryz.pinned (OpenSpec.ofChange subtreeAllWrong)

/-- 'certpathlaw10.SubtreeReduce': WHATEVER THE INPUT: true; the input reads as it did. -/
def subtreeReduceSpec : ChangeSpec := { name := "subtreeReduce", fn := fun _ => fun
  | [d1, d2, d3] => { results := [.lit (.bool true)], args := [d1, d2, d3] }
  | _ => none }
def subtreeReduceRow : OpenClaim := { program := "ytodapmkdmkhhfaagreatdoor", sum := "a7bafb5111f865428632cd4e187e09fa3cb3667d00d86c3278669f815544a8a1", func := "certpath/certpathlaw10.SubtreeReduce", spec := "subtreeReduce", inPlace := ["internal/bytealg.IndexByteString", "internal/bytealg.IndexString", "internal/bytealg.CountString"], unfollowed := true, recurses := true, named := ["internal/bytealg.MaxLen", "unicode/utf8.first", "unicode/utf8.acceptRanges"], apart := false, laid := [("unicode/utf8.acceptRanges", laid_unicode_utf8_acceptRanges), ("unicode/utf8.first", laid_unicode_utf8_first)] }
def SubtreeReduceSaid : Prop := subtreeReduceRow.holds Tryz.pinned (OpenSpec.ofChange subtreeReduceSpec)

/-- ITS FALSE NEIGHBOUR: 'it returns false'. Refute it at one input. -/
def subtreeReduceWrong : ChangeSpec := { name := "subtreeReduce", fn := fun _ => fun
  | [d1, d2, d3] => { results := [.lit (.bool false)], args := [d1, d2, d3] }
  | _ => none }
def SubtreeReduceWrongFalsely : Prop := subtreeReduceRow.holds Tryz.pinned (OpenSpec.ofChange subtreeReduceWrong)

/-- 'certpathlaw09.GnameMatch': WHATEVER THE INPUT: true; the input reads as it did. -/
def gnameMatchSpec : ChangeSpec := { name := "gnameMatch", fn := fun _ => fun
  | [d1, d2, d3] => { results := [.lit (.bool true)], args := [d1, d2, d3] }
  | _ => none }
def gnameMatchRow : OpenClaim := { program := "ytodapmkdmkhhfaagreatdoor", sum := "a7bafb5111f865428632cd4e187e09fa3cb3667d00d86c3278669f815544a8a1", func := "certpath/certpathlaw09.GnameMatch", spec := "gnameMatch", inPlace := ["internal/bytealg.CountString", "internal/bytealg.IndexByteString", "internal/bytealg.IndexString", "internal/abi.NoEscape", "internal/bytealg.MakeNoZero"], unfollowed := true, recurses := true, named := ["unicode/utf8.first", "unicode/utf8.acceptRanges", "internal/bytealg.MaxLen"], apart := false, laid := [("unicode/utf8.acceptRanges", laid_unicode_utf8_acceptRanges), ("unicode/utf8.first", laid_unicode_utf8_first)] }
def GnameMatchSaid : Prop := gnameMatchRow.holds Tryz.pinned (OpenSpec.ofChange gnameMatchSpec)

/-- ITS FALSE NEIGHBOUR: 'it returns false'. Refute it at one input. -/
def gnameMatchWrong : ChangeSpec := { name := "gnameMatch", fn := fun _ => fun
  | [d1, d2, d3] => { results := [.lit (.bool false)], args := [d1, d2, d3] }
  | _ => none }
def GnameMatchWrongFalsely : Prop := gnameMatchRow.holds Tryz.pinned (OpenSpec.ofChange gnameMatchWrong)

/-- 'certpathlaw09.GnameSame': WHATEVER THE INPUT: true; the input reads as it did. -/
def gnameSameSpec : ChangeSpec := { name := "gnameSame", fn := fun _ => fun
  | [d] => { results := [.lit (.bool true)], args := [d] }
  | _ => none }
def gnameSameRow : OpenClaim := { program := "ytodapmkdmkhhfaagreatdoor", sum := "a7bafb5111f865428632cd4e187e09fa3cb3667d00d86c3278669f815544a8a1", func := "certpath/certpathlaw09.GnameSame", spec := "gnameSame", inPlace := ["internal/bytealg.IndexByteString", "internal/bytealg.IndexString", "internal/bytealg.CountString", "internal/abi.NoEscape", "internal/bytealg.MakeNoZero"], unfollowed := true, recurses := true, named := ["internal/bytealg.MaxLen", "unicode/utf8.first", "unicode/utf8.acceptRanges"], apart := false, laid := [("unicode/utf8.acceptRanges", laid_unicode_utf8_acceptRanges), ("unicode/utf8.first", laid_unicode_utf8_first)] }
def GnameSameSaid : Prop := gnameSameRow.holds Tryz.pinned (OpenSpec.ofChange gnameSameSpec)

/-- ITS FALSE NEIGHBOUR: 'it returns false'. Refute it at one input. -/
def gnameSameWrong : ChangeSpec := { name := "gnameSame", fn := fun _ => fun
  | [d] => { results := [.lit (.bool false)], args := [d] }
  | _ => none }
def GnameSameWrongFalsely : Prop := gnameSameRow.holds Tryz.pinned (OpenSpec.ofChange gnameSameWrong)

/- THE SECOND FORM. 'bulk': how many values and letters a reading holds, each counted each time it is reached (what is shared counts as often as it is met; a slice's spare places count too). A statement '..UptoSaid' is the law's where the arguments, and the package variables that the reading takes, are together of bulk at most 1048576: NARROWER than '..Said'. Prove '..Said' where nothing that the law and all that it calls make is longer than what came in: it says more and counts as full. Else prove '..UptoSaid'. A law counts once. -/
mutual
def uptoBulk {H : Type} : DataW H → Nat
  | .lit (.string bytes) => bytes.length + 1
  | .lit _ => 1
  | .nil => 1
  | .ptr d => uptoBulk d + 1
  | .slice elems spare => uptoBulkAll elems + uptoBulkAll spare + 1
  | .agg parts => uptoBulkAll parts + 1
  | .iface _ d => uptoBulk d + 1
  | .map entries => uptoBulkEntries entries + 1
  | .held _ => 1
def uptoBulkAll {H : Type} : List (DataW H) → Nat
  | [] => 0
  | d :: r => uptoBulk d + uptoBulkAll r
def uptoBulkEntries {H : Type} : List (Lit × DataW H) → Nat
  | [] => 0
  | x :: r => uptoBulkEntry x + uptoBulkEntries r
def uptoBulkEntry {H : Type} : Lit × DataW H → Nat
  | (.string bytes, d) => bytes.length + uptoBulk d + 1
  | (_, d) => uptoBulk d + 1
 end
def uptoSmall : (H : Type) → List (DataW H) → Bool := fun _ ds => decide (uptoBulkAll ds ≤ 1048576)
def OpenSpec.upto (s : _root_.Go.ChangeSpec) : _root_.Go.OpenSpec := { _root_.Go.OpenSpec.ofChange s with cond := some uptoSmall }

/-- 'certpathlaw10.SubtreePermits', WHERE WHAT IT READS IS OF BULK AT MOST 1048576: true; the input reads as it did. -/
def subtreePermitsUptoRow : OpenClaim := { program := "ytodapmkdmkhhfaagreatdoor", sum := "a7bafb5111f865428632cd4e187e09fa3cb3667d00d86c3278669f815544a8a1", func := "certpath/certpathlaw10.SubtreePermits", spec := "subtreePermits", inPlace := ["internal/bytealg.IndexByteString", "internal/bytealg.IndexString", "internal/bytealg.CountString"], unfollowed := true, recurses := true, named := ["internal/bytealg.MaxLen", "unicode/utf8.first", "unicode/utf8.acceptRanges"], apart := false, laid := [("unicode/utf8.acceptRanges", laid_unicode_utf8_acceptRanges), ("unicode/utf8.first", laid_unicode_utf8_first)], narrowed := true }
def SubtreePermitsUptoSaid : Prop := subtreePermitsUptoRow.holds Tryz.pinned (OpenSpec.upto subtreePermitsSpec)

/-- 'certpathlaw10.SubtreeAll', WHERE WHAT IT READS IS OF BULK AT MOST 1048576: true; the input reads as it did. -/
def subtreeAllUptoRow : OpenClaim := { program := "ytodapmkdmkhhfaagreatdoor", sum := "a7bafb5111f865428632cd4e187e09fa3cb3667d00d86c3278669f815544a8a1", func := "certpath/certpathlaw10.SubtreeAll", spec := "subtreeAll", inPlace := ["internal/bytealg.IndexByteString", "internal/bytealg.IndexString", "internal/bytealg.CountString"], unfollowed := true, recurses := true, named := ["internal/bytealg.MaxLen", "unicode/utf8.first", "unicode/utf8.acceptRanges"], apart := false, laid := [("unicode/utf8.acceptRanges", laid_unicode_utf8_acceptRanges), ("unicode/utf8.first", laid_unicode_utf8_first)], narrowed := true }
def SubtreeAllUptoSaid : Prop := subtreeAllUptoRow.holds Tryz.pinned (OpenSpec.upto subtreeAllSpec)

/-- 'certpathlaw10.SubtreeReduce', WHERE WHAT IT READS IS OF BULK AT MOST 1048576: true; the input reads as it did. -/
def subtreeReduceUptoRow : OpenClaim := { program := "ytodapmkdmkhhfaagreatdoor", sum := "a7bafb5111f865428632cd4e187e09fa3cb3667d00d86c3278669f815544a8a1", func := "certpath/certpathlaw10.SubtreeReduce", spec := "subtreeReduce", inPlace := ["internal/bytealg.IndexByteString", "internal/bytealg.IndexString", "internal/bytealg.CountString"], unfollowed := true, recurses := true, named := ["internal/bytealg.MaxLen", "unicode/utf8.first", "unicode/utf8.acceptRanges"], apart := false, laid := [("unicode/utf8.acceptRanges", laid_unicode_utf8_acceptRanges), ("unicode/utf8.first", laid_unicode_utf8_first)], narrowed := true }
def SubtreeReduceUptoSaid : Prop := subtreeReduceUptoRow.holds Tryz.pinned (OpenSpec.upto subtreeReduceSpec)

/-- 'certpathlaw09.GnameMatch', WHERE WHAT IT READS IS OF BULK AT MOST 1048576: true; the input reads as it did. -/
def gnameMatchUptoRow : OpenClaim := { program := "ytodapmkdmkhhfaagreatdoor", sum := "a7bafb5111f865428632cd4e187e09fa3cb3667d00d86c3278669f815544a8a1", func := "certpath/certpathlaw09.GnameMatch", spec := "gnameMatch", inPlace := ["internal/bytealg.CountString", "internal/bytealg.IndexByteString", "internal/bytealg.IndexString", "internal/abi.NoEscape", "internal/bytealg.MakeNoZero"], unfollowed := true, recurses := true, named := ["unicode/utf8.first", "unicode/utf8.acceptRanges", "internal/bytealg.MaxLen"], apart := false, laid := [("unicode/utf8.acceptRanges", laid_unicode_utf8_acceptRanges), ("unicode/utf8.first", laid_unicode_utf8_first)], narrowed := true }
def GnameMatchUptoSaid : Prop := gnameMatchUptoRow.holds Tryz.pinned (OpenSpec.upto gnameMatchSpec)

/-- 'certpathlaw09.GnameSame', WHERE WHAT IT READS IS OF BULK AT MOST 1048576: true; the input reads as it did. -/
def gnameSameUptoRow : OpenClaim := { program := "ytodapmkdmkhhfaagreatdoor", sum := "a7bafb5111f865428632cd4e187e09fa3cb3667d00d86c3278669f815544a8a1", func := "certpath/certpathlaw09.GnameSame", spec := "gnameSame", inPlace := ["internal/bytealg.IndexByteString", "internal/bytealg.IndexString", "internal/bytealg.CountString", "internal/abi.NoEscape", "internal/bytealg.MakeNoZero"], unfollowed := true, recurses := true, named := ["internal/bytealg.MaxLen", "unicode/utf8.first", "unicode/utf8.acceptRanges"], apart := false, laid := [("unicode/utf8.acceptRanges", laid_unicode_utf8_acceptRanges), ("unicode/utf8.first", laid_unicode_utf8_first)], narrowed := true }
def GnameSameUptoSaid : Prop := gnameSameUptoRow.holds Tryz.pinned (OpenSpec.upto gnameSameSpec)

end Rows
end Go.Proofs.YtodapmkdmkhhfaaGreatDoor
