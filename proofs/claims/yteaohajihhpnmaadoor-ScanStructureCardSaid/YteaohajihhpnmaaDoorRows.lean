/-
  NARROWER THAN 'FOR EVERY INPUT', by the rows' own cells (each row's printed sentence says how): DecParses: laid · DecTokens: laid · DecRadix: laid · DecPowers: laid · DecBack: laid · ScanNext: laid · ScanAll: laid · ScanStrings: laid · ScanNested: laid · ScanBlanks: laid · ScanStructure: laid.
  DERIVED. THE GIVEN ROWS OF THIS SEAT. 11 by the template 'for every input the law returns true; each argument reads behind the call as it read before'; 0 by the template 'total and deterministic' (their statements: YteaohajihhpnmaaDoorTotals.lean).
  GIVEN WITH THE SEED: the statements are not yours to turn. If you find one false, say at which input.
  Laid BY PROGRAM, IN A SANDBOX (cutbox-rows.mjs): the forced cells as the released guide's own fill.sh prints them over the translation ed4223140c6d7247… (all of the seat's roots in one cut). By AI agents, Wed Nov 11 2026. No macro, syntax, notation, axiom, sorry.
-/
import Derived.Test.YteaohajihhpnmaaDoorChecked
import GoSem.PinnedTables
import GoSem.Claim
import GoSem.ClaimJoined
import GoSem.ClaimMapViews
import Derived.JoinedTies
import Derived.KernelRfl
namespace Go.Proofs.YteaohajihhpnmaaDoor
/- THE CELL 'sum', in the pinned program and in every row, IS THE sha256 OF THE DUMP (.gsa) THAT YteaohajihhpnmaaDoorProg.lean LOADS. Nothing in Lean hashes anything: it is a label: what it is worth is what the hold of that sum in a sandbox is worth. -/
noncomputable def Tryd.pinned : Pinned := { name := "yteaohajihhpnmaadoor", sum := "ed4223140c6d72478da19ff9099116885941f880eb321c6e28a31ae56af9b4b9", checked := Tryd.checked }
namespace Rows
def none {H : Type} : Left H := { results := [], args := [] }

/- WHAT THE LISTED PACKAGE-LEVEL VARIABLES READ AS WHEN THE CALL BEGINS. Each datum BY PROGRAM (the guide's laid-datum.mjs) off the statement by which the dump's own 'gosem.cut.vars' lays the variable. In a bare row this is a premise. The card (YteaohajihhpnmaaDoorCards.lean) ties it to the program's text. -/
def laid_unicode_utf8_acceptRanges {H : Type} : DataW H := .agg [.agg [.lit (.int .u8 128), .lit (.int .u8 191)], .agg [.lit (.int .u8 160), .lit (.int .u8 191)], .agg [.lit (.int .u8 128), .lit (.int .u8 159)], .agg [.lit (.int .u8 144), .lit (.int .u8 191)], .agg [.lit (.int .u8 128), .lit (.int .u8 143)], .agg [.lit (.int .u8 0), .lit (.int .u8 0)], .agg [.lit (.int .u8 0), .lit (.int .u8 0)], .agg [.lit (.int .u8 0), .lit (.int .u8 0)], .agg [.lit (.int .u8 0), .lit (.int .u8 0)], .agg [.lit (.int .u8 0), .lit (.int .u8 0)], .agg [.lit (.int .u8 0), .lit (.int .u8 0)], .agg [.lit (.int .u8 0), .lit (.int .u8 0)], .agg [.lit (.int .u8 0), .lit (.int .u8 0)], .agg [.lit (.int .u8 0), .lit (.int .u8 0)], .agg [.lit (.int .u8 0), .lit (.int .u8 0)], .agg [.lit (.int .u8 0), .lit (.int .u8 0)]]
/-- One of Go's own tables, pinned by name: the form's constant. -/
def laid_unicode_utf8_first : DataW Unit := Go.Pinned.utf8First

/-- 'mezzotintlaw02.DecParses': WHATEVER THE INPUT: true; the input reads as it did. -/
def decParsesSpec : ChangeSpec := { name := "decParses", fn := fun _ => fun
  | [d] => { results := [.lit (.bool true)], args := [d] }
  | _ => none }
def decParsesRow : OpenClaim := { program := "yteaohajihhpnmaadoor", sum := "ed4223140c6d72478da19ff9099116885941f880eb321c6e28a31ae56af9b4b9", func := "mezzotint/mezzotintlaw02.DecParses", spec := "decParses", inPlace := ["internal/abi.NoEscape", "internal/bytealg.IndexByteString", "internal/bytealg.IndexString"], recurses := true, named := ["internal/bytealg.MaxLen", "unicode/utf8.first", "unicode/utf8.acceptRanges"], apart := false, laid := [("unicode/utf8.acceptRanges", laid_unicode_utf8_acceptRanges), ("unicode/utf8.first", laid_unicode_utf8_first)] }
def DecParsesSaid : Prop := decParsesRow.holds Tryd.pinned (OpenSpec.ofChange decParsesSpec)

/-- ITS FALSE NEIGHBOUR: 'it returns false'. Refute it at one input. -/
def decParsesWrong : ChangeSpec := { name := "decParses", fn := fun _ => fun
  | [d] => { results := [.lit (.bool false)], args := [d] }
  | _ => none }
def DecParsesWrongFalsely : Prop := decParsesRow.holds Tryd.pinned (OpenSpec.ofChange decParsesWrong)

/-- 'mezzotintlaw02.DecTokens': WHATEVER THE INPUT: true; the input reads as it did. -/
def decTokensSpec : ChangeSpec := { name := "decTokens", fn := fun _ => fun
  | [d] => { results := [.lit (.bool true)], args := [d] }
  | _ => none }
def decTokensRow : OpenClaim := { program := "yteaohajihhpnmaadoor", sum := "ed4223140c6d72478da19ff9099116885941f880eb321c6e28a31ae56af9b4b9", func := "mezzotint/mezzotintlaw02.DecTokens", spec := "decTokens", inPlace := ["internal/abi.NoEscape", "internal/bytealg.IndexByteString", "internal/bytealg.IndexString", "internal/bytealg.MakeNoZero"], recurses := true, named := ["internal/bytealg.MaxLen", "unicode/utf8.first", "unicode/utf8.acceptRanges"], apart := false, laid := [("unicode/utf8.acceptRanges", laid_unicode_utf8_acceptRanges), ("unicode/utf8.first", laid_unicode_utf8_first)] }
def DecTokensSaid : Prop := decTokensRow.holds Tryd.pinned (OpenSpec.ofChange decTokensSpec)

/-- ITS FALSE NEIGHBOUR: 'it returns false'. Refute it at one input. -/
def decTokensWrong : ChangeSpec := { name := "decTokens", fn := fun _ => fun
  | [d] => { results := [.lit (.bool false)], args := [d] }
  | _ => none }
def DecTokensWrongFalsely : Prop := decTokensRow.holds Tryd.pinned (OpenSpec.ofChange decTokensWrong)

/-- 'mezzotintlaw02.DecRadix': WHATEVER THE INPUT: true; the input reads as it did. -/
def decRadixSpec : ChangeSpec := { name := "decRadix", fn := fun _ => fun
  | [d1, d2, d3] => { results := [.lit (.bool true)], args := [d1, d2, d3] }
  | _ => none }
def decRadixRow : OpenClaim := { program := "yteaohajihhpnmaadoor", sum := "ed4223140c6d72478da19ff9099116885941f880eb321c6e28a31ae56af9b4b9", func := "mezzotint/mezzotintlaw02.DecRadix", spec := "decRadix", inPlace := ["internal/bytealg.IndexByteString", "internal/bytealg.IndexString", "internal/abi.NoEscape", "internal/bytealg.MakeNoZero"], recurses := true, named := ["internal/bytealg.MaxLen", "unicode/utf8.first", "unicode/utf8.acceptRanges"], apart := false, laid := [("unicode/utf8.acceptRanges", laid_unicode_utf8_acceptRanges), ("unicode/utf8.first", laid_unicode_utf8_first)] }
def DecRadixSaid : Prop := decRadixRow.holds Tryd.pinned (OpenSpec.ofChange decRadixSpec)

/-- ITS FALSE NEIGHBOUR: 'it returns false'. Refute it at one input. -/
def decRadixWrong : ChangeSpec := { name := "decRadix", fn := fun _ => fun
  | [d1, d2, d3] => { results := [.lit (.bool false)], args := [d1, d2, d3] }
  | _ => none }
def DecRadixWrongFalsely : Prop := decRadixRow.holds Tryd.pinned (OpenSpec.ofChange decRadixWrong)

/-- 'mezzotintlaw02.DecPowers': WHATEVER THE INPUT: true; the input reads as it did. -/
def decPowersSpec : ChangeSpec := { name := "decPowers", fn := fun _ => fun
  | [d1, d2] => { results := [.lit (.bool true)], args := [d1, d2] }
  | _ => none }
def decPowersRow : OpenClaim := { program := "yteaohajihhpnmaadoor", sum := "ed4223140c6d72478da19ff9099116885941f880eb321c6e28a31ae56af9b4b9", func := "mezzotint/mezzotintlaw02.DecPowers", spec := "decPowers", inPlace := ["internal/bytealg.IndexByteString", "internal/bytealg.IndexString", "internal/abi.NoEscape", "internal/bytealg.MakeNoZero"], recurses := true, named := ["internal/bytealg.MaxLen", "unicode/utf8.first", "unicode/utf8.acceptRanges"], apart := false, laid := [("unicode/utf8.acceptRanges", laid_unicode_utf8_acceptRanges), ("unicode/utf8.first", laid_unicode_utf8_first)] }
def DecPowersSaid : Prop := decPowersRow.holds Tryd.pinned (OpenSpec.ofChange decPowersSpec)

/-- ITS FALSE NEIGHBOUR: 'it returns false'. Refute it at one input. -/
def decPowersWrong : ChangeSpec := { name := "decPowers", fn := fun _ => fun
  | [d1, d2] => { results := [.lit (.bool false)], args := [d1, d2] }
  | _ => none }
def DecPowersWrongFalsely : Prop := decPowersRow.holds Tryd.pinned (OpenSpec.ofChange decPowersWrong)

/-- 'mezzotintlaw02.DecBack': WHATEVER THE INPUT: true; the input reads as it did. -/
def decBackSpec : ChangeSpec := { name := "decBack", fn := fun _ => fun
  | [d1, d2, d3] => { results := [.lit (.bool true)], args := [d1, d2, d3] }
  | _ => none }
def decBackRow : OpenClaim := { program := "yteaohajihhpnmaadoor", sum := "ed4223140c6d72478da19ff9099116885941f880eb321c6e28a31ae56af9b4b9", func := "mezzotint/mezzotintlaw02.DecBack", spec := "decBack", inPlace := ["internal/abi.NoEscape", "internal/bytealg.IndexByteString", "internal/bytealg.IndexString", "internal/bytealg.MakeNoZero"], recurses := true, named := ["internal/bytealg.MaxLen", "unicode/utf8.first", "unicode/utf8.acceptRanges"], apart := false, laid := [("unicode/utf8.acceptRanges", laid_unicode_utf8_acceptRanges), ("unicode/utf8.first", laid_unicode_utf8_first)] }
def DecBackSaid : Prop := decBackRow.holds Tryd.pinned (OpenSpec.ofChange decBackSpec)

/-- ITS FALSE NEIGHBOUR: 'it returns false'. Refute it at one input. -/
def decBackWrong : ChangeSpec := { name := "decBack", fn := fun _ => fun
  | [d1, d2, d3] => { results := [.lit (.bool false)], args := [d1, d2, d3] }
  | _ => none }
def DecBackWrongFalsely : Prop := decBackRow.holds Tryd.pinned (OpenSpec.ofChange decBackWrong)

/-- 'mezzotintlaw04.ScanNext': WHATEVER THE INPUT: true; the input reads as it did. -/
def scanNextSpec : ChangeSpec := { name := "scanNext", fn := fun _ => fun
  | [d1, d2] => { results := [.lit (.bool true)], args := [d1, d2] }
  | _ => none }
def scanNextRow : OpenClaim := { program := "yteaohajihhpnmaadoor", sum := "ed4223140c6d72478da19ff9099116885941f880eb321c6e28a31ae56af9b4b9", func := "mezzotint/mezzotintlaw04.ScanNext", spec := "scanNext", inPlace := ["internal/bytealg.IndexByteString", "internal/bytealg.IndexString", "internal/abi.NoEscape", "internal/bytealg.MakeNoZero"], unfollowed := true, recurses := true, named := ["internal/bytealg.MaxLen", "unicode/utf8.first", "unicode/utf8.acceptRanges"], apart := false, laid := [("unicode/utf8.acceptRanges", laid_unicode_utf8_acceptRanges), ("unicode/utf8.first", laid_unicode_utf8_first)] }
def ScanNextSaid : Prop := scanNextRow.holds Tryd.pinned (OpenSpec.ofChange scanNextSpec)

/-- ITS FALSE NEIGHBOUR: 'it returns false'. Refute it at one input. -/
def scanNextWrong : ChangeSpec := { name := "scanNext", fn := fun _ => fun
  | [d1, d2] => { results := [.lit (.bool false)], args := [d1, d2] }
  | _ => none }
def ScanNextWrongFalsely : Prop := scanNextRow.holds Tryd.pinned (OpenSpec.ofChange scanNextWrong)

/-- 'mezzotintlaw04.ScanAll': WHATEVER THE INPUT: true; the input reads as it did. -/
def scanAllSpec : ChangeSpec := { name := "scanAll", fn := fun _ => fun
  | [d] => { results := [.lit (.bool true)], args := [d] }
  | _ => none }
def scanAllRow : OpenClaim := { program := "yteaohajihhpnmaadoor", sum := "ed4223140c6d72478da19ff9099116885941f880eb321c6e28a31ae56af9b4b9", func := "mezzotint/mezzotintlaw04.ScanAll", spec := "scanAll", inPlace := ["internal/bytealg.IndexByteString", "internal/bytealg.IndexString", "internal/abi.NoEscape", "internal/bytealg.MakeNoZero"], unfollowed := true, recurses := true, named := ["internal/bytealg.MaxLen", "unicode/utf8.first", "unicode/utf8.acceptRanges"], apart := false, laid := [("unicode/utf8.acceptRanges", laid_unicode_utf8_acceptRanges), ("unicode/utf8.first", laid_unicode_utf8_first)] }
def ScanAllSaid : Prop := scanAllRow.holds Tryd.pinned (OpenSpec.ofChange scanAllSpec)

/-- ITS FALSE NEIGHBOUR: 'it returns false'. Refute it at one input. -/
def scanAllWrong : ChangeSpec := { name := "scanAll", fn := fun _ => fun
  | [d] => { results := [.lit (.bool false)], args := [d] }
  | _ => none }
def ScanAllWrongFalsely : Prop := scanAllRow.holds Tryd.pinned (OpenSpec.ofChange scanAllWrong)

/-- 'mezzotintlaw04.ScanStrings': WHATEVER THE INPUT: true; the input reads as it did. -/
def scanStringsSpec : ChangeSpec := { name := "scanStrings", fn := fun _ => fun
  | [d1, d2] => { results := [.lit (.bool true)], args := [d1, d2] }
  | _ => none }
def scanStringsRow : OpenClaim := { program := "yteaohajihhpnmaadoor", sum := "ed4223140c6d72478da19ff9099116885941f880eb321c6e28a31ae56af9b4b9", func := "mezzotint/mezzotintlaw04.ScanStrings", spec := "scanStrings", inPlace := ["internal/bytealg.IndexByteString", "internal/bytealg.IndexString", "internal/abi.NoEscape", "internal/bytealg.MakeNoZero"], unfollowed := true, recurses := true, named := ["internal/bytealg.MaxLen", "unicode/utf8.first", "unicode/utf8.acceptRanges"], apart := false, laid := [("unicode/utf8.acceptRanges", laid_unicode_utf8_acceptRanges), ("unicode/utf8.first", laid_unicode_utf8_first)] }
def ScanStringsSaid : Prop := scanStringsRow.holds Tryd.pinned (OpenSpec.ofChange scanStringsSpec)

/-- ITS FALSE NEIGHBOUR: 'it returns false'. Refute it at one input. -/
def scanStringsWrong : ChangeSpec := { name := "scanStrings", fn := fun _ => fun
  | [d1, d2] => { results := [.lit (.bool false)], args := [d1, d2] }
  | _ => none }
def ScanStringsWrongFalsely : Prop := scanStringsRow.holds Tryd.pinned (OpenSpec.ofChange scanStringsWrong)

/-- 'mezzotintlaw04.ScanNested': WHATEVER THE INPUT: true; the input reads as it did. -/
def scanNestedSpec : ChangeSpec := { name := "scanNested", fn := fun _ => fun
  | [d1, d2] => { results := [.lit (.bool true)], args := [d1, d2] }
  | _ => none }
def scanNestedRow : OpenClaim := { program := "yteaohajihhpnmaadoor", sum := "ed4223140c6d72478da19ff9099116885941f880eb321c6e28a31ae56af9b4b9", func := "mezzotint/mezzotintlaw04.ScanNested", spec := "scanNested", inPlace := ["internal/bytealg.IndexByteString", "internal/bytealg.IndexString", "internal/abi.NoEscape", "internal/bytealg.MakeNoZero"], unfollowed := true, recurses := true, named := ["internal/bytealg.MaxLen", "unicode/utf8.first", "unicode/utf8.acceptRanges"], apart := false, laid := [("unicode/utf8.acceptRanges", laid_unicode_utf8_acceptRanges), ("unicode/utf8.first", laid_unicode_utf8_first)] }
def ScanNestedSaid : Prop := scanNestedRow.holds Tryd.pinned (OpenSpec.ofChange scanNestedSpec)

/-- ITS FALSE NEIGHBOUR: 'it returns false'. Refute it at one input. -/
def scanNestedWrong : ChangeSpec := { name := "scanNested", fn := fun _ => fun
  | [d1, d2] => { results := [.lit (.bool false)], args := [d1, d2] }
  | _ => none }
def ScanNestedWrongFalsely : Prop := scanNestedRow.holds Tryd.pinned (OpenSpec.ofChange scanNestedWrong)

/-- 'mezzotintlaw04.ScanBlanks': WHATEVER THE INPUT: true; the input reads as it did. -/
def scanBlanksSpec : ChangeSpec := { name := "scanBlanks", fn := fun _ => fun
  | [d1, d2] => { results := [.lit (.bool true)], args := [d1, d2] }
  | _ => none }
def scanBlanksRow : OpenClaim := { program := "yteaohajihhpnmaadoor", sum := "ed4223140c6d72478da19ff9099116885941f880eb321c6e28a31ae56af9b4b9", func := "mezzotint/mezzotintlaw04.ScanBlanks", spec := "scanBlanks", inPlace := ["internal/bytealg.IndexByteString", "internal/bytealg.IndexString", "internal/abi.NoEscape", "internal/bytealg.MakeNoZero"], unfollowed := true, recurses := true, named := ["internal/bytealg.MaxLen", "unicode/utf8.first", "unicode/utf8.acceptRanges"], apart := false, laid := [("unicode/utf8.acceptRanges", laid_unicode_utf8_acceptRanges), ("unicode/utf8.first", laid_unicode_utf8_first)] }
def ScanBlanksSaid : Prop := scanBlanksRow.holds Tryd.pinned (OpenSpec.ofChange scanBlanksSpec)

/-- ITS FALSE NEIGHBOUR: 'it returns false'. Refute it at one input. -/
def scanBlanksWrong : ChangeSpec := { name := "scanBlanks", fn := fun _ => fun
  | [d1, d2] => { results := [.lit (.bool false)], args := [d1, d2] }
  | _ => none }
def ScanBlanksWrongFalsely : Prop := scanBlanksRow.holds Tryd.pinned (OpenSpec.ofChange scanBlanksWrong)

/-- 'mezzotintlaw04.ScanStructure': WHATEVER THE INPUT: true; the input reads as it did. -/
def scanStructureSpec : ChangeSpec := { name := "scanStructure", fn := fun _ => fun
  | [d] => { results := [.lit (.bool true)], args := [d] }
  | _ => none }
def scanStructureRow : OpenClaim := { program := "yteaohajihhpnmaadoor", sum := "ed4223140c6d72478da19ff9099116885941f880eb321c6e28a31ae56af9b4b9", func := "mezzotint/mezzotintlaw04.ScanStructure", spec := "scanStructure", inPlace := ["internal/bytealg.IndexByteString", "internal/bytealg.IndexString", "internal/abi.NoEscape", "internal/bytealg.MakeNoZero"], unfollowed := true, recurses := true, named := ["internal/bytealg.MaxLen", "unicode/utf8.first", "unicode/utf8.acceptRanges"], apart := false, laid := [("unicode/utf8.acceptRanges", laid_unicode_utf8_acceptRanges), ("unicode/utf8.first", laid_unicode_utf8_first)] }
def ScanStructureSaid : Prop := scanStructureRow.holds Tryd.pinned (OpenSpec.ofChange scanStructureSpec)

/-- ITS FALSE NEIGHBOUR: 'it returns false'. Refute it at one input. -/
def scanStructureWrong : ChangeSpec := { name := "scanStructure", fn := fun _ => fun
  | [d] => { results := [.lit (.bool false)], args := [d] }
  | _ => none }
def ScanStructureWrongFalsely : Prop := scanStructureRow.holds Tryd.pinned (OpenSpec.ofChange scanStructureWrong)

/- THE SECOND FORM. 'bulk': how many values and letters a reading holds, each counted each time it is reached (what is shared counts as often as it is met; a slice's spare places count too). A statement '..UptoSaid' is the law's where the arguments, and the package variables that the reading takes, are together of bulk at most 1048576: NARROWER than '..Said'. Prove '..Said' where nothing that the law and all that it calls make is longer than what came in: it says more and counts as full. Else prove '..UptoSaid'. A law counts once. -/
mutual
def uptoBulk {H : Type} : DataW H → Nat
  | .lit (.string bytes) => bytes.length + 1
  | .lit _ => 1
  | .nil => 1
  | .ptr d => uptoBulk d + 1
  | .slice elems spare => uptoBulkAll elems + uptoBulkAll spare + 1
  | .agg parts => uptoBulkAll parts + 1
  | .iface _ d => uptoBulk d + 1
  | .map entries => uptoBulkEntries entries + 1
  | .held _ => 1
def uptoBulkAll {H : Type} : List (DataW H) → Nat
  | [] => 0
  | d :: r => uptoBulk d + uptoBulkAll r
def uptoBulkEntries {H : Type} : List (Lit × DataW H) → Nat
  | [] => 0
  | x :: r => uptoBulkEntry x + uptoBulkEntries r
def uptoBulkEntry {H : Type} : Lit × DataW H → Nat
  | (.string bytes, d) => bytes.length + uptoBulk d + 1
  | (_, d) => uptoBulk d + 1
 end
def uptoSmall : (H : Type) → List (DataW H) → Bool := fun _ ds => decide (uptoBulkAll ds ≤ 1048576)
def OpenSpec.upto (s : _root_.Go.ChangeSpec) : _root_.Go.OpenSpec := { _root_.Go.OpenSpec.ofChange s with cond := some uptoSmall }

/-- 'mezzotintlaw02.DecParses', WHERE WHAT IT READS IS OF BULK AT MOST 1048576: true; the input reads as it did. -/
def decParsesUptoRow : OpenClaim := { program := "yteaohajihhpnmaadoor", sum := "ed4223140c6d72478da19ff9099116885941f880eb321c6e28a31ae56af9b4b9", func := "mezzotint/mezzotintlaw02.DecParses", spec := "decParses", inPlace := ["internal/abi.NoEscape", "internal/bytealg.IndexByteString", "internal/bytealg.IndexString"], recurses := true, named := ["internal/bytealg.MaxLen", "unicode/utf8.first", "unicode/utf8.acceptRanges"], apart := false, laid := [("unicode/utf8.acceptRanges", laid_unicode_utf8_acceptRanges), ("unicode/utf8.first", laid_unicode_utf8_first)], narrowed := true }
def DecParsesUptoSaid : Prop := decParsesUptoRow.holds Tryd.pinned (OpenSpec.upto decParsesSpec)

/-- 'mezzotintlaw02.DecTokens', WHERE WHAT IT READS IS OF BULK AT MOST 1048576: true; the input reads as it did. -/
def decTokensUptoRow : OpenClaim := { program := "yteaohajihhpnmaadoor", sum := "ed4223140c6d72478da19ff9099116885941f880eb321c6e28a31ae56af9b4b9", func := "mezzotint/mezzotintlaw02.DecTokens", spec := "decTokens", inPlace := ["internal/abi.NoEscape", "internal/bytealg.IndexByteString", "internal/bytealg.IndexString", "internal/bytealg.MakeNoZero"], recurses := true, named := ["internal/bytealg.MaxLen", "unicode/utf8.first", "unicode/utf8.acceptRanges"], apart := false, laid := [("unicode/utf8.acceptRanges", laid_unicode_utf8_acceptRanges), ("unicode/utf8.first", laid_unicode_utf8_first)], narrowed := true }
def DecTokensUptoSaid : Prop := decTokensUptoRow.holds Tryd.pinned (OpenSpec.upto decTokensSpec)

/-- 'mezzotintlaw02.DecRadix', WHERE WHAT IT READS IS OF BULK AT MOST 1048576: true; the input reads as it did. -/
def decRadixUptoRow : OpenClaim := { program := "yteaohajihhpnmaadoor", sum := "ed4223140c6d72478da19ff9099116885941f880eb321c6e28a31ae56af9b4b9", func := "mezzotint/mezzotintlaw02.DecRadix", spec := "decRadix", inPlace := ["internal/bytealg.IndexByteString", "internal/bytealg.IndexString", "internal/abi.NoEscape", "internal/bytealg.MakeNoZero"], recurses := true, named := ["internal/bytealg.MaxLen", "unicode/utf8.first", "unicode/utf8.acceptRanges"], apart := false, laid := [("unicode/utf8.acceptRanges", laid_unicode_utf8_acceptRanges), ("unicode/utf8.first", laid_unicode_utf8_first)], narrowed := true }
def DecRadixUptoSaid : Prop := decRadixUptoRow.holds Tryd.pinned (OpenSpec.upto decRadixSpec)

/-- 'mezzotintlaw02.DecPowers', WHERE WHAT IT READS IS OF BULK AT MOST 1048576: true; the input reads as it did. -/
def decPowersUptoRow : OpenClaim := { program := "yteaohajihhpnmaadoor", sum := "ed4223140c6d72478da19ff9099116885941f880eb321c6e28a31ae56af9b4b9", func := "mezzotint/mezzotintlaw02.DecPowers", spec := "decPowers", inPlace := ["internal/bytealg.IndexByteString", "internal/bytealg.IndexString", "internal/abi.NoEscape", "internal/bytealg.MakeNoZero"], recurses := true, named := ["internal/bytealg.MaxLen", "unicode/utf8.first", "unicode/utf8.acceptRanges"], apart := false, laid := [("unicode/utf8.acceptRanges", laid_unicode_utf8_acceptRanges), ("unicode/utf8.first", laid_unicode_utf8_first)], narrowed := true }
def DecPowersUptoSaid : Prop := decPowersUptoRow.holds Tryd.pinned (OpenSpec.upto decPowersSpec)

/-- 'mezzotintlaw02.DecBack', WHERE WHAT IT READS IS OF BULK AT MOST 1048576: true; the input reads as it did. -/
def decBackUptoRow : OpenClaim := { program := "yteaohajihhpnmaadoor", sum := "ed4223140c6d72478da19ff9099116885941f880eb321c6e28a31ae56af9b4b9", func := "mezzotint/mezzotintlaw02.DecBack", spec := "decBack", inPlace := ["internal/abi.NoEscape", "internal/bytealg.IndexByteString", "internal/bytealg.IndexString", "internal/bytealg.MakeNoZero"], recurses := true, named := ["internal/bytealg.MaxLen", "unicode/utf8.first", "unicode/utf8.acceptRanges"], apart := false, laid := [("unicode/utf8.acceptRanges", laid_unicode_utf8_acceptRanges), ("unicode/utf8.first", laid_unicode_utf8_first)], narrowed := true }
def DecBackUptoSaid : Prop := decBackUptoRow.holds Tryd.pinned (OpenSpec.upto decBackSpec)

/-- 'mezzotintlaw04.ScanNext', WHERE WHAT IT READS IS OF BULK AT MOST 1048576: true; the input reads as it did. -/
def scanNextUptoRow : OpenClaim := { program := "yteaohajihhpnmaadoor", sum := "ed4223140c6d72478da19ff9099116885941f880eb321c6e28a31ae56af9b4b9", func := "mezzotint/mezzotintlaw04.ScanNext", spec := "scanNext", inPlace := ["internal/bytealg.IndexByteString", "internal/bytealg.IndexString", "internal/abi.NoEscape", "internal/bytealg.MakeNoZero"], unfollowed := true, recurses := true, named := ["internal/bytealg.MaxLen", "unicode/utf8.first", "unicode/utf8.acceptRanges"], apart := false, laid := [("unicode/utf8.acceptRanges", laid_unicode_utf8_acceptRanges), ("unicode/utf8.first", laid_unicode_utf8_first)], narrowed := true }
def ScanNextUptoSaid : Prop := scanNextUptoRow.holds Tryd.pinned (OpenSpec.upto scanNextSpec)

/-- 'mezzotintlaw04.ScanAll', WHERE WHAT IT READS IS OF BULK AT MOST 1048576: true; the input reads as it did. -/
def scanAllUptoRow : OpenClaim := { program := "yteaohajihhpnmaadoor", sum := "ed4223140c6d72478da19ff9099116885941f880eb321c6e28a31ae56af9b4b9", func := "mezzotint/mezzotintlaw04.ScanAll", spec := "scanAll", inPlace := ["internal/bytealg.IndexByteString", "internal/bytealg.IndexString", "internal/abi.NoEscape", "internal/bytealg.MakeNoZero"], unfollowed := true, recurses := true, named := ["internal/bytealg.MaxLen", "unicode/utf8.first", "unicode/utf8.acceptRanges"], apart := false, laid := [("unicode/utf8.acceptRanges", laid_unicode_utf8_acceptRanges), ("unicode/utf8.first", laid_unicode_utf8_first)], narrowed := true }
def ScanAllUptoSaid : Prop := scanAllUptoRow.holds Tryd.pinned (OpenSpec.upto scanAllSpec)

/-- 'mezzotintlaw04.ScanStrings', WHERE WHAT IT READS IS OF BULK AT MOST 1048576: true; the input reads as it did. -/
def scanStringsUptoRow : OpenClaim := { program := "yteaohajihhpnmaadoor", sum := "ed4223140c6d72478da19ff9099116885941f880eb321c6e28a31ae56af9b4b9", func := "mezzotint/mezzotintlaw04.ScanStrings", spec := "scanStrings", inPlace := ["internal/bytealg.IndexByteString", "internal/bytealg.IndexString", "internal/abi.NoEscape", "internal/bytealg.MakeNoZero"], unfollowed := true, recurses := true, named := ["internal/bytealg.MaxLen", "unicode/utf8.first", "unicode/utf8.acceptRanges"], apart := false, laid := [("unicode/utf8.acceptRanges", laid_unicode_utf8_acceptRanges), ("unicode/utf8.first", laid_unicode_utf8_first)], narrowed := true }
def ScanStringsUptoSaid : Prop := scanStringsUptoRow.holds Tryd.pinned (OpenSpec.upto scanStringsSpec)

/-- 'mezzotintlaw04.ScanNested', WHERE WHAT IT READS IS OF BULK AT MOST 1048576: true; the input reads as it did. -/
def scanNestedUptoRow : OpenClaim := { program := "yteaohajihhpnmaadoor", sum := "ed4223140c6d72478da19ff9099116885941f880eb321c6e28a31ae56af9b4b9", func := "mezzotint/mezzotintlaw04.ScanNested", spec := "scanNested", inPlace := ["internal/bytealg.IndexByteString", "internal/bytealg.IndexString", "internal/abi.NoEscape", "internal/bytealg.MakeNoZero"], unfollowed := true, recurses := true, named := ["internal/bytealg.MaxLen", "unicode/utf8.first", "unicode/utf8.acceptRanges"], apart := false, laid := [("unicode/utf8.acceptRanges", laid_unicode_utf8_acceptRanges), ("unicode/utf8.first", laid_unicode_utf8_first)], narrowed := true }
def ScanNestedUptoSaid : Prop := scanNestedUptoRow.holds Tryd.pinned (OpenSpec.upto scanNestedSpec)

/-- 'mezzotintlaw04.ScanBlanks', WHERE WHAT IT READS IS OF BULK AT MOST 1048576: true; the input reads as it did. -/
def scanBlanksUptoRow : OpenClaim := { program := "yteaohajihhpnmaadoor", sum := "ed4223140c6d72478da19ff9099116885941f880eb321c6e28a31ae56af9b4b9", func := "mezzotint/mezzotintlaw04.ScanBlanks", spec := "scanBlanks", inPlace := ["internal/bytealg.IndexByteString", "internal/bytealg.IndexString", "internal/abi.NoEscape", "internal/bytealg.MakeNoZero"], unfollowed := true, recurses := true, named := ["internal/bytealg.MaxLen", "unicode/utf8.first", "unicode/utf8.acceptRanges"], apart := false, laid := [("unicode/utf8.acceptRanges", laid_unicode_utf8_acceptRanges), ("unicode/utf8.first", laid_unicode_utf8_first)], narrowed := true }
def ScanBlanksUptoSaid : Prop := scanBlanksUptoRow.holds Tryd.pinned (OpenSpec.upto scanBlanksSpec)

/-- 'mezzotintlaw04.ScanStructure', WHERE WHAT IT READS IS OF BULK AT MOST 1048576: true; the input reads as it did. -/
def scanStructureUptoRow : OpenClaim := { program := "yteaohajihhpnmaadoor", sum := "ed4223140c6d72478da19ff9099116885941f880eb321c6e28a31ae56af9b4b9", func := "mezzotint/mezzotintlaw04.ScanStructure", spec := "scanStructure", inPlace := ["internal/bytealg.IndexByteString", "internal/bytealg.IndexString", "internal/abi.NoEscape", "internal/bytealg.MakeNoZero"], unfollowed := true, recurses := true, named := ["internal/bytealg.MaxLen", "unicode/utf8.first", "unicode/utf8.acceptRanges"], apart := false, laid := [("unicode/utf8.acceptRanges", laid_unicode_utf8_acceptRanges), ("unicode/utf8.first", laid_unicode_utf8_first)], narrowed := true }
def ScanStructureUptoSaid : Prop := scanStructureUptoRow.holds Tryd.pinned (OpenSpec.upto scanStructureSpec)

end Rows
end Go.Proofs.YteaohajihhpnmaaDoor
