/-
  NARROWER THAN 'FOR EVERY INPUT', by the rows' own cells (each row's printed sentence says how): PlexPlaces: laid · PlexBack: loops, laid · PlexCuts: loops, laid · PlexTokens: laid · ScriptBack: laid · ScriptReads: laid · ScriptFaults: laid.
  DERIVED. THE GIVEN ROWS OF THIS SEAT. 7 by the template 'for every input the law returns true; each argument reads behind the call as it read before'; 0 by the template 'total and deterministic' (their statements: YtjghbcjnplcleaaGreatDoorTotals.lean).
  GIVEN WITH THE SEED: the statements are not yours to turn. If you find one false, say at which input.
  Laid BY PROGRAM, IN A SANDBOX (cutbox-rows.mjs): the forced cells as the released guide's own fill.sh prints them over the translation 60c20497d0c56823… (all of the seat's roots in one cut). By AI agents, Wed Nov 11 2026. No macro, syntax, notation, axiom, sorry.
-/
import Derived.Test.YtjghbcjnplcleaaGreatDoorChecked
import GoSem.PinnedTables
import GoSem.Claim
import GoSem.ClaimJoined
import GoSem.ClaimMapViews
import Derived.JoinedTies
import Derived.KernelRfl
namespace Go.Proofs.YtjghbcjnplcleaaGreatDoor
/- THE CELL 'sum', in the pinned program and in every row, IS THE sha256 OF THE DUMP (.gsa) THAT YtjghbcjnplcleaaGreatDoorProg.lean LOADS. Nothing in Lean hashes anything: it is a label: what it is worth is what the hold of that sum in a sandbox is worth. -/
noncomputable def Tryz.pinned : Pinned := { name := "ytjghbcjnplcleaagreatdoor", sum := "60c20497d0c56823ddc2645c43ed23589281e6115794aec5f3c910262560391c", checked := Tryz.checked }
namespace Rows
def none {H : Type} : Left H := { results := [], args := [] }

/- WHAT THE LISTED PACKAGE-LEVEL VARIABLES READ AS WHEN THE CALL BEGINS. Each datum BY PROGRAM (the guide's laid-datum.mjs) off the statement by which the dump's own 'gosem.cut.vars' lays the variable. In a bare row this is a premise. The card (YtjghbcjnplcleaaGreatDoorCards.lean) ties it to the program's text. -/
def laid_unicode_utf8_acceptRanges {H : Type} : DataW H := .agg [.agg [.lit (.int .u8 128), .lit (.int .u8 191)], .agg [.lit (.int .u8 160), .lit (.int .u8 191)], .agg [.lit (.int .u8 128), .lit (.int .u8 159)], .agg [.lit (.int .u8 144), .lit (.int .u8 191)], .agg [.lit (.int .u8 128), .lit (.int .u8 143)], .agg [.lit (.int .u8 0), .lit (.int .u8 0)], .agg [.lit (.int .u8 0), .lit (.int .u8 0)], .agg [.lit (.int .u8 0), .lit (.int .u8 0)], .agg [.lit (.int .u8 0), .lit (.int .u8 0)], .agg [.lit (.int .u8 0), .lit (.int .u8 0)], .agg [.lit (.int .u8 0), .lit (.int .u8 0)], .agg [.lit (.int .u8 0), .lit (.int .u8 0)], .agg [.lit (.int .u8 0), .lit (.int .u8 0)], .agg [.lit (.int .u8 0), .lit (.int .u8 0)], .agg [.lit (.int .u8 0), .lit (.int .u8 0)], .agg [.lit (.int .u8 0), .lit (.int .u8 0)]]
/-- One of Go's own tables, pinned by name: the form's constant. -/
def laid_unicode_utf8_first : DataW Unit := Go.Pinned.utf8First
def laid_math_bits_deBruijn32tab {H : Type} : DataW H := .agg [.lit (.int .u8 0), .lit (.int .u8 1), .lit (.int .u8 28), .lit (.int .u8 2), .lit (.int .u8 29), .lit (.int .u8 14), .lit (.int .u8 24), .lit (.int .u8 3), .lit (.int .u8 30), .lit (.int .u8 22), .lit (.int .u8 20), .lit (.int .u8 15), .lit (.int .u8 25), .lit (.int .u8 17), .lit (.int .u8 4), .lit (.int .u8 8), .lit (.int .u8 31), .lit (.int .u8 27), .lit (.int .u8 13), .lit (.int .u8 23), .lit (.int .u8 21), .lit (.int .u8 19), .lit (.int .u8 16), .lit (.int .u8 7), .lit (.int .u8 26), .lit (.int .u8 12), .lit (.int .u8 18), .lit (.int .u8 6), .lit (.int .u8 11), .lit (.int .u8 5), .lit (.int .u8 10), .lit (.int .u8 9)]
def laid_math_bits_deBruijn64tab {H : Type} : DataW H := .agg [.lit (.int .u8 0), .lit (.int .u8 1), .lit (.int .u8 56), .lit (.int .u8 2), .lit (.int .u8 57), .lit (.int .u8 49), .lit (.int .u8 28), .lit (.int .u8 3), .lit (.int .u8 61), .lit (.int .u8 58), .lit (.int .u8 42), .lit (.int .u8 50), .lit (.int .u8 38), .lit (.int .u8 29), .lit (.int .u8 17), .lit (.int .u8 4), .lit (.int .u8 62), .lit (.int .u8 47), .lit (.int .u8 59), .lit (.int .u8 36), .lit (.int .u8 45), .lit (.int .u8 43), .lit (.int .u8 51), .lit (.int .u8 22), .lit (.int .u8 53), .lit (.int .u8 39), .lit (.int .u8 33), .lit (.int .u8 30), .lit (.int .u8 24), .lit (.int .u8 18), .lit (.int .u8 12), .lit (.int .u8 5), .lit (.int .u8 63), .lit (.int .u8 55), .lit (.int .u8 48), .lit (.int .u8 27), .lit (.int .u8 60), .lit (.int .u8 41), .lit (.int .u8 37), .lit (.int .u8 16), .lit (.int .u8 46), .lit (.int .u8 35), .lit (.int .u8 44), .lit (.int .u8 21), .lit (.int .u8 52), .lit (.int .u8 32), .lit (.int .u8 23), .lit (.int .u8 11), .lit (.int .u8 54), .lit (.int .u8 26), .lit (.int .u8 40), .lit (.int .u8 15), .lit (.int .u8 34), .lit (.int .u8 20), .lit (.int .u8 31), .lit (.int .u8 10), .lit (.int .u8 25), .lit (.int .u8 14), .lit (.int .u8 19), .lit (.int .u8 9), .lit (.int .u8 13), .lit (.int .u8 8), .lit (.int .u8 7), .lit (.int .u8 6)]
def laid_internal_strconv_uint64pow10 {H : Type} : DataW H := .agg [.lit (.int .u64 1), .lit (.int .u64 10), .lit (.int .u64 100), .lit (.int .u64 1000), .lit (.int .u64 10000), .lit (.int .u64 100000), .lit (.int .u64 1000000), .lit (.int .u64 10000000), .lit (.int .u64 100000000), .lit (.int .u64 1000000000), .lit (.int .u64 10000000000), .lit (.int .u64 100000000000), .lit (.int .u64 1000000000000), .lit (.int .u64 10000000000000), .lit (.int .u64 100000000000000), .lit (.int .u64 1000000000000000), .lit (.int .u64 10000000000000000), .lit (.int .u64 100000000000000000), .lit (.int .u64 1000000000000000000), .lit (.int .u64 10000000000000000000)]
def laid_mezzotint_font_names {H : Type} : DataW H := .agg [.lit (.string [67, 111, 117, 114, 105, 101, 114]), .lit (.string [67, 111, 117, 114, 105, 101, 114, 45, 66, 111, 108, 100]), .lit (.string [67, 111, 117, 114, 105, 101, 114, 45, 79, 98, 108, 105, 113, 117, 101]), .lit (.string [67, 111, 117, 114, 105, 101, 114, 45, 66, 111, 108, 100, 79, 98, 108, 105, 113, 117, 101]), .lit (.string [72, 101, 108, 118, 101, 116, 105, 99, 97]), .lit (.string [72, 101, 108, 118, 101, 116, 105, 99, 97, 45, 66, 111, 108, 100]), .lit (.string [72, 101, 108, 118, 101, 116, 105, 99, 97, 45, 79, 98, 108, 105, 113, 117, 101]), .lit (.string [72, 101, 108, 118, 101, 116, 105, 99, 97, 45, 66, 111, 108, 100, 79, 98, 108, 105, 113, 117, 101]), .lit (.string [84, 105, 109, 101, 115, 45, 82, 111, 109, 97, 110]), .lit (.string [84, 105, 109, 101, 115, 45, 66, 111, 108, 100]), .lit (.string [84, 105, 109, 101, 115, 45, 73, 116, 97, 108, 105, 99]), .lit (.string [84, 105, 109, 101, 115, 45, 66, 111, 108, 100, 73, 116, 97, 108, 105, 99]), .lit (.string [83, 121, 109, 98, 111, 108]), .lit (.string [90, 97, 112, 102, 68, 105, 110, 103, 98, 97, 116, 115])]
def laid_strconv_ErrRange {H : Type} : DataW H := .iface "*errors.errorString" (.ptr (.agg [.lit (.string [118, 97, 108, 117, 101, 32, 111, 117, 116, 32, 111, 102, 32, 114, 97, 110, 103, 101])]))
def laid_strconv_ErrSyntax {H : Type} : DataW H := .iface "*errors.errorString" (.ptr (.agg [.lit (.string [105, 110, 118, 97, 108, 105, 100, 32, 115, 121, 110, 116, 97, 120])]))

/-- 'mezzotintlaw19.PlexPlaces': WHATEVER THE INPUT: true; the input reads as it did. -/
def plexPlacesSpec : ChangeSpec := { name := "plexPlaces", fn := fun _ => fun
  | [d1, d2] => { results := [.lit (.bool true)], args := [d1, d2] }
  | _ => none }
def plexPlacesRow : OpenClaim := { program := "ytjghbcjnplcleaagreatdoor", sum := "60c20497d0c56823ddc2645c43ed23589281e6115794aec5f3c910262560391c", func := "mezzotint/mezzotintlaw19.PlexPlaces", spec := "plexPlaces", inPlace := ["internal/bytealg.IndexByteString", "internal/bytealg.IndexString", "internal/abi.NoEscape", "internal/bytealg.MakeNoZero"], unfollowed := true, recurses := true, named := ["internal/bytealg.MaxLen", "unicode/utf8.first", "unicode/utf8.acceptRanges"], apart := false, laid := [("unicode/utf8.acceptRanges", laid_unicode_utf8_acceptRanges), ("unicode/utf8.first", laid_unicode_utf8_first)] }
def PlexPlacesSaid : Prop := plexPlacesRow.holds Tryz.pinned (OpenSpec.ofChange plexPlacesSpec)

/-- ITS FALSE NEIGHBOUR: 'it returns false'. Refute it at one input. -/
def plexPlacesWrong : ChangeSpec := { name := "plexPlaces", fn := fun _ => fun
  | [d1, d2] => { results := [.lit (.bool false)], args := [d1, d2] }
  | _ => none }
def PlexPlacesWrongFalsely : Prop := plexPlacesRow.holds Tryz.pinned (OpenSpec.ofChange plexPlacesWrong)

/-- 'mezzotintlaw19.PlexBack': WHATEVER THE INPUT: true; the input reads as it did. -/
def plexBackSpec : ChangeSpec := { name := "plexBack", fn := fun _ => fun
  | [d1, d2, d3] => { results := [.lit (.bool true)], args := [d1, d2, d3] }
  | _ => none }
def plexBackRow : OpenClaim := { program := "ytjghbcjnplcleaagreatdoor", sum := "60c20497d0c56823ddc2645c43ed23589281e6115794aec5f3c910262560391c", func := "mezzotint/mezzotintlaw19.PlexBack", spec := "plexBack", inPlace := ["internal/bytealg.IndexByteString", "internal/bytealg.IndexString", "internal/abi.NoEscape", "internal/bytealg.MakeNoZero"], unfollowed := true, recurses := true, named := ["internal/bytealg.MaxLen", "unicode/utf8.first", "unicode/utf8.acceptRanges"], loops := true, apart := false, laid := [("unicode/utf8.acceptRanges", laid_unicode_utf8_acceptRanges), ("unicode/utf8.first", laid_unicode_utf8_first)] }
def PlexBackSaid : Prop := plexBackRow.holds Tryz.pinned (OpenSpec.ofChange plexBackSpec)

/-- ITS FALSE NEIGHBOUR: 'it returns false'. Refute it at one input. -/
def plexBackWrong : ChangeSpec := { name := "plexBack", fn := fun _ => fun
  | [d1, d2, d3] => { results := [.lit (.bool false)], args := [d1, d2, d3] }
  | _ => none }
def PlexBackWrongFalsely : Prop := plexBackRow.holds Tryz.pinned (OpenSpec.ofChange plexBackWrong)

/-- 'mezzotintlaw19.PlexCuts': WHATEVER THE INPUT: true; the input reads as it did. -/
def plexCutsSpec : ChangeSpec := { name := "plexCuts", fn := fun _ => fun
  | [d1, d2] => { results := [.lit (.bool true)], args := [d1, d2] }
  | _ => none }
def plexCutsRow : OpenClaim := { program := "ytjghbcjnplcleaagreatdoor", sum := "60c20497d0c56823ddc2645c43ed23589281e6115794aec5f3c910262560391c", func := "mezzotint/mezzotintlaw19.PlexCuts", spec := "plexCuts", inPlace := ["internal/bytealg.IndexByteString", "internal/bytealg.IndexString", "internal/abi.NoEscape", "internal/bytealg.MakeNoZero"], unfollowed := true, recurses := true, named := ["internal/bytealg.MaxLen", "unicode/utf8.first", "unicode/utf8.acceptRanges"], loops := true, apart := false, laid := [("unicode/utf8.acceptRanges", laid_unicode_utf8_acceptRanges), ("unicode/utf8.first", laid_unicode_utf8_first)] }
def PlexCutsSaid : Prop := plexCutsRow.holds Tryz.pinned (OpenSpec.ofChange plexCutsSpec)

/-- ITS FALSE NEIGHBOUR: 'it returns false'. Refute it at one input. -/
def plexCutsWrong : ChangeSpec := { name := "plexCuts", fn := fun _ => fun
  | [d1, d2] => { results := [.lit (.bool false)], args := [d1, d2] }
  | _ => none }
def PlexCutsWrongFalsely : Prop := plexCutsRow.holds Tryz.pinned (OpenSpec.ofChange plexCutsWrong)

/-- 'mezzotintlaw19.PlexTokens': WHATEVER THE INPUT: true; the input reads as it did. -/
def plexTokensSpec : ChangeSpec := { name := "plexTokens", fn := fun _ => fun
  | [d] => { results := [.lit (.bool true)], args := [d] }
  | _ => none }
def plexTokensRow : OpenClaim := { program := "ytjghbcjnplcleaagreatdoor", sum := "60c20497d0c56823ddc2645c43ed23589281e6115794aec5f3c910262560391c", func := "mezzotint/mezzotintlaw19.PlexTokens", spec := "plexTokens", inPlace := ["internal/bytealg.IndexByteString", "internal/bytealg.IndexString", "internal/abi.NoEscape", "internal/bytealg.MakeNoZero"], unfollowed := true, recurses := true, named := ["internal/bytealg.MaxLen", "unicode/utf8.first", "unicode/utf8.acceptRanges"], apart := false, laid := [("unicode/utf8.acceptRanges", laid_unicode_utf8_acceptRanges), ("unicode/utf8.first", laid_unicode_utf8_first)] }
def PlexTokensSaid : Prop := plexTokensRow.holds Tryz.pinned (OpenSpec.ofChange plexTokensSpec)

/-- ITS FALSE NEIGHBOUR: 'it returns false'. Refute it at one input. -/
def plexTokensWrong : ChangeSpec := { name := "plexTokens", fn := fun _ => fun
  | [d] => { results := [.lit (.bool false)], args := [d] }
  | _ => none }
def PlexTokensWrongFalsely : Prop := plexTokensRow.holds Tryz.pinned (OpenSpec.ofChange plexTokensWrong)

/-- 'mezzotintlaw26.ScriptBack': WHATEVER THE INPUT: true; the input reads as it did. -/
def scriptBackSpec : ChangeSpec := { name := "scriptBack", fn := fun _ => fun
  | [d] => { results := [.lit (.bool true)], args := [d] }
  | _ => none }
def scriptBackRow : OpenClaim := { program := "ytjghbcjnplcleaagreatdoor", sum := "60c20497d0c56823ddc2645c43ed23589281e6115794aec5f3c910262560391c", func := "mezzotint/mezzotintlaw26.ScriptBack", spec := "scriptBack", inPlace := ["internal/abi.NoEscape", "internal/bytealg.CountString", "internal/bytealg.IndexByteString", "internal/bytealg.IndexString"], unfollowed := true, recurses := true, named := ["mezzotint/font.names", "internal/strconv.uint64pow10", "math/bits.deBruijn32tab", "math/bits.deBruijn64tab", "unicode/utf8.first", "unicode/utf8.acceptRanges", "internal/bytealg.MaxLen", "strconv.ErrSyntax", "strconv.ErrRange"], apart := false, laid := [("math/bits.deBruijn32tab", laid_math_bits_deBruijn32tab), ("math/bits.deBruijn64tab", laid_math_bits_deBruijn64tab), ("internal/strconv.uint64pow10", laid_internal_strconv_uint64pow10), ("mezzotint/font.names", laid_mezzotint_font_names), ("unicode/utf8.acceptRanges", laid_unicode_utf8_acceptRanges), ("strconv.ErrRange", laid_strconv_ErrRange), ("strconv.ErrSyntax", laid_strconv_ErrSyntax), ("unicode/utf8.first", laid_unicode_utf8_first)] }
def ScriptBackSaid : Prop := scriptBackRow.holds Tryz.pinned (OpenSpec.ofChange scriptBackSpec)

/-- ITS FALSE NEIGHBOUR: 'it returns false'. Refute it at one input. -/
def scriptBackWrong : ChangeSpec := { name := "scriptBack", fn := fun _ => fun
  | [d] => { results := [.lit (.bool false)], args := [d] }
  | _ => none }
def ScriptBackWrongFalsely : Prop := scriptBackRow.holds Tryz.pinned (OpenSpec.ofChange scriptBackWrong)

/-- 'mezzotintlaw26.ScriptReads': WHATEVER THE INPUT: true; the input reads as it did. -/
def scriptReadsSpec : ChangeSpec := { name := "scriptReads", fn := fun _ => fun
  | [d] => { results := [.lit (.bool true)], args := [d] }
  | _ => none }
def scriptReadsRow : OpenClaim := { program := "ytjghbcjnplcleaagreatdoor", sum := "60c20497d0c56823ddc2645c43ed23589281e6115794aec5f3c910262560391c", func := "mezzotint/mezzotintlaw26.ScriptReads", spec := "scriptReads", inPlace := ["internal/abi.NoEscape", "internal/bytealg.CountString", "internal/bytealg.IndexByteString", "internal/bytealg.IndexString"], unfollowed := true, recurses := true, named := ["mezzotint/font.names", "internal/strconv.uint64pow10", "math/bits.deBruijn32tab", "math/bits.deBruijn64tab", "unicode/utf8.first", "unicode/utf8.acceptRanges", "internal/bytealg.MaxLen", "strconv.ErrSyntax", "strconv.ErrRange"], apart := false, laid := [("math/bits.deBruijn32tab", laid_math_bits_deBruijn32tab), ("math/bits.deBruijn64tab", laid_math_bits_deBruijn64tab), ("internal/strconv.uint64pow10", laid_internal_strconv_uint64pow10), ("mezzotint/font.names", laid_mezzotint_font_names), ("unicode/utf8.acceptRanges", laid_unicode_utf8_acceptRanges), ("strconv.ErrRange", laid_strconv_ErrRange), ("strconv.ErrSyntax", laid_strconv_ErrSyntax), ("unicode/utf8.first", laid_unicode_utf8_first)] }
def ScriptReadsSaid : Prop := scriptReadsRow.holds Tryz.pinned (OpenSpec.ofChange scriptReadsSpec)

/-- ITS FALSE NEIGHBOUR: 'it returns false'. Refute it at one input. -/
def scriptReadsWrong : ChangeSpec := { name := "scriptReads", fn := fun _ => fun
  | [d] => { results := [.lit (.bool false)], args := [d] }
  | _ => none }
def ScriptReadsWrongFalsely : Prop := scriptReadsRow.holds Tryz.pinned (OpenSpec.ofChange scriptReadsWrong)

/-- 'mezzotintlaw26.ScriptFaults': WHATEVER THE INPUT: true; the input reads as it did. -/
def scriptFaultsSpec : ChangeSpec := { name := "scriptFaults", fn := fun _ => fun
  | [d1, d2, d3, d4] => { results := [.lit (.bool true)], args := [d1, d2, d3, d4] }
  | _ => none }
def scriptFaultsRow : OpenClaim := { program := "ytjghbcjnplcleaagreatdoor", sum := "60c20497d0c56823ddc2645c43ed23589281e6115794aec5f3c910262560391c", func := "mezzotint/mezzotintlaw26.ScriptFaults", spec := "scriptFaults", inPlace := ["internal/abi.NoEscape", "internal/bytealg.CountString", "internal/bytealg.IndexByteString", "internal/bytealg.IndexString"], unfollowed := true, recurses := true, named := ["mezzotint/font.names", "internal/strconv.uint64pow10", "math/bits.deBruijn32tab", "math/bits.deBruijn64tab", "unicode/utf8.first", "unicode/utf8.acceptRanges", "internal/bytealg.MaxLen", "strconv.ErrSyntax", "strconv.ErrRange"], apart := false, laid := [("math/bits.deBruijn32tab", laid_math_bits_deBruijn32tab), ("math/bits.deBruijn64tab", laid_math_bits_deBruijn64tab), ("internal/strconv.uint64pow10", laid_internal_strconv_uint64pow10), ("mezzotint/font.names", laid_mezzotint_font_names), ("unicode/utf8.acceptRanges", laid_unicode_utf8_acceptRanges), ("strconv.ErrRange", laid_strconv_ErrRange), ("strconv.ErrSyntax", laid_strconv_ErrSyntax), ("unicode/utf8.first", laid_unicode_utf8_first)] }
def ScriptFaultsSaid : Prop := scriptFaultsRow.holds Tryz.pinned (OpenSpec.ofChange scriptFaultsSpec)

/-- ITS FALSE NEIGHBOUR: 'it returns false'. Refute it at one input. -/
def scriptFaultsWrong : ChangeSpec := { name := "scriptFaults", fn := fun _ => fun
  | [d1, d2, d3, d4] => { results := [.lit (.bool false)], args := [d1, d2, d3, d4] }
  | _ => none }
def ScriptFaultsWrongFalsely : Prop := scriptFaultsRow.holds Tryz.pinned (OpenSpec.ofChange scriptFaultsWrong)

/- THE SECOND FORM. 'bulk': how many values and letters a reading holds, each counted each time it is reached (what is shared counts as often as it is met; a slice's spare places count too). A statement '..UptoSaid' is the law's where the arguments, and the package variables that the reading takes, are together of bulk at most 1048576: NARROWER than '..Said'. Prove '..Said' where nothing that the law and all that it calls make is longer than what came in: it says more and counts as full. Else prove '..UptoSaid'. A law counts once. -/
mutual
def uptoBulk {H : Type} : DataW H → Nat
  | .lit (.string bytes) => bytes.length + 1
  | .lit _ => 1
  | .nil => 1
  | .ptr d => uptoBulk d + 1
  | .slice elems spare => uptoBulkAll elems + uptoBulkAll spare + 1
  | .agg parts => uptoBulkAll parts + 1
  | .iface _ d => uptoBulk d + 1
  | .map entries => uptoBulkEntries entries + 1
  | .held _ => 1
def uptoBulkAll {H : Type} : List (DataW H) → Nat
  | [] => 0
  | d :: r => uptoBulk d + uptoBulkAll r
def uptoBulkEntries {H : Type} : List (Lit × DataW H) → Nat
  | [] => 0
  | x :: r => uptoBulkEntry x + uptoBulkEntries r
def uptoBulkEntry {H : Type} : Lit × DataW H → Nat
  | (.string bytes, d) => bytes.length + uptoBulk d + 1
  | (_, d) => uptoBulk d + 1
 end
def uptoSmall : (H : Type) → List (DataW H) → Bool := fun _ ds => decide (uptoBulkAll ds ≤ 1048576)
def OpenSpec.upto (s : _root_.Go.ChangeSpec) : _root_.Go.OpenSpec := { _root_.Go.OpenSpec.ofChange s with cond := some uptoSmall }

/-- 'mezzotintlaw19.PlexPlaces', WHERE WHAT IT READS IS OF BULK AT MOST 1048576: true; the input reads as it did. -/
def plexPlacesUptoRow : OpenClaim := { program := "ytjghbcjnplcleaagreatdoor", sum := "60c20497d0c56823ddc2645c43ed23589281e6115794aec5f3c910262560391c", func := "mezzotint/mezzotintlaw19.PlexPlaces", spec := "plexPlaces", inPlace := ["internal/bytealg.IndexByteString", "internal/bytealg.IndexString", "internal/abi.NoEscape", "internal/bytealg.MakeNoZero"], unfollowed := true, recurses := true, named := ["internal/bytealg.MaxLen", "unicode/utf8.first", "unicode/utf8.acceptRanges"], apart := false, laid := [("unicode/utf8.acceptRanges", laid_unicode_utf8_acceptRanges), ("unicode/utf8.first", laid_unicode_utf8_first)], narrowed := true }
def PlexPlacesUptoSaid : Prop := plexPlacesUptoRow.holds Tryz.pinned (OpenSpec.upto plexPlacesSpec)

/-- 'mezzotintlaw19.PlexBack', WHERE WHAT IT READS IS OF BULK AT MOST 1048576: true; the input reads as it did. -/
def plexBackUptoRow : OpenClaim := { program := "ytjghbcjnplcleaagreatdoor", sum := "60c20497d0c56823ddc2645c43ed23589281e6115794aec5f3c910262560391c", func := "mezzotint/mezzotintlaw19.PlexBack", spec := "plexBack", inPlace := ["internal/bytealg.IndexByteString", "internal/bytealg.IndexString", "internal/abi.NoEscape", "internal/bytealg.MakeNoZero"], unfollowed := true, recurses := true, named := ["internal/bytealg.MaxLen", "unicode/utf8.first", "unicode/utf8.acceptRanges"], loops := true, apart := false, laid := [("unicode/utf8.acceptRanges", laid_unicode_utf8_acceptRanges), ("unicode/utf8.first", laid_unicode_utf8_first)], narrowed := true }
def PlexBackUptoSaid : Prop := plexBackUptoRow.holds Tryz.pinned (OpenSpec.upto plexBackSpec)

/-- 'mezzotintlaw19.PlexCuts', WHERE WHAT IT READS IS OF BULK AT MOST 1048576: true; the input reads as it did. -/
def plexCutsUptoRow : OpenClaim := { program := "ytjghbcjnplcleaagreatdoor", sum := "60c20497d0c56823ddc2645c43ed23589281e6115794aec5f3c910262560391c", func := "mezzotint/mezzotintlaw19.PlexCuts", spec := "plexCuts", inPlace := ["internal/bytealg.IndexByteString", "internal/bytealg.IndexString", "internal/abi.NoEscape", "internal/bytealg.MakeNoZero"], unfollowed := true, recurses := true, named := ["internal/bytealg.MaxLen", "unicode/utf8.first", "unicode/utf8.acceptRanges"], loops := true, apart := false, laid := [("unicode/utf8.acceptRanges", laid_unicode_utf8_acceptRanges), ("unicode/utf8.first", laid_unicode_utf8_first)], narrowed := true }
def PlexCutsUptoSaid : Prop := plexCutsUptoRow.holds Tryz.pinned (OpenSpec.upto plexCutsSpec)

/-- 'mezzotintlaw19.PlexTokens', WHERE WHAT IT READS IS OF BULK AT MOST 1048576: true; the input reads as it did. -/
def plexTokensUptoRow : OpenClaim := { program := "ytjghbcjnplcleaagreatdoor", sum := "60c20497d0c56823ddc2645c43ed23589281e6115794aec5f3c910262560391c", func := "mezzotint/mezzotintlaw19.PlexTokens", spec := "plexTokens", inPlace := ["internal/bytealg.IndexByteString", "internal/bytealg.IndexString", "internal/abi.NoEscape", "internal/bytealg.MakeNoZero"], unfollowed := true, recurses := true, named := ["internal/bytealg.MaxLen", "unicode/utf8.first", "unicode/utf8.acceptRanges"], apart := false, laid := [("unicode/utf8.acceptRanges", laid_unicode_utf8_acceptRanges), ("unicode/utf8.first", laid_unicode_utf8_first)], narrowed := true }
def PlexTokensUptoSaid : Prop := plexTokensUptoRow.holds Tryz.pinned (OpenSpec.upto plexTokensSpec)

/-- 'mezzotintlaw26.ScriptBack', WHERE WHAT IT READS IS OF BULK AT MOST 1048576: true; the input reads as it did. -/
def scriptBackUptoRow : OpenClaim := { program := "ytjghbcjnplcleaagreatdoor", sum := "60c20497d0c56823ddc2645c43ed23589281e6115794aec5f3c910262560391c", func := "mezzotint/mezzotintlaw26.ScriptBack", spec := "scriptBack", inPlace := ["internal/abi.NoEscape", "internal/bytealg.CountString", "internal/bytealg.IndexByteString", "internal/bytealg.IndexString"], unfollowed := true, recurses := true, named := ["mezzotint/font.names", "internal/strconv.uint64pow10", "math/bits.deBruijn32tab", "math/bits.deBruijn64tab", "unicode/utf8.first", "unicode/utf8.acceptRanges", "internal/bytealg.MaxLen", "strconv.ErrSyntax", "strconv.ErrRange"], apart := false, laid := [("math/bits.deBruijn32tab", laid_math_bits_deBruijn32tab), ("math/bits.deBruijn64tab", laid_math_bits_deBruijn64tab), ("internal/strconv.uint64pow10", laid_internal_strconv_uint64pow10), ("mezzotint/font.names", laid_mezzotint_font_names), ("unicode/utf8.acceptRanges", laid_unicode_utf8_acceptRanges), ("strconv.ErrRange", laid_strconv_ErrRange), ("strconv.ErrSyntax", laid_strconv_ErrSyntax), ("unicode/utf8.first", laid_unicode_utf8_first)], narrowed := true }
def ScriptBackUptoSaid : Prop := scriptBackUptoRow.holds Tryz.pinned (OpenSpec.upto scriptBackSpec)

/-- 'mezzotintlaw26.ScriptReads', WHERE WHAT IT READS IS OF BULK AT MOST 1048576: true; the input reads as it did. -/
def scriptReadsUptoRow : OpenClaim := { program := "ytjghbcjnplcleaagreatdoor", sum := "60c20497d0c56823ddc2645c43ed23589281e6115794aec5f3c910262560391c", func := "mezzotint/mezzotintlaw26.ScriptReads", spec := "scriptReads", inPlace := ["internal/abi.NoEscape", "internal/bytealg.CountString", "internal/bytealg.IndexByteString", "internal/bytealg.IndexString"], unfollowed := true, recurses := true, named := ["mezzotint/font.names", "internal/strconv.uint64pow10", "math/bits.deBruijn32tab", "math/bits.deBruijn64tab", "unicode/utf8.first", "unicode/utf8.acceptRanges", "internal/bytealg.MaxLen", "strconv.ErrSyntax", "strconv.ErrRange"], apart := false, laid := [("math/bits.deBruijn32tab", laid_math_bits_deBruijn32tab), ("math/bits.deBruijn64tab", laid_math_bits_deBruijn64tab), ("internal/strconv.uint64pow10", laid_internal_strconv_uint64pow10), ("mezzotint/font.names", laid_mezzotint_font_names), ("unicode/utf8.acceptRanges", laid_unicode_utf8_acceptRanges), ("strconv.ErrRange", laid_strconv_ErrRange), ("strconv.ErrSyntax", laid_strconv_ErrSyntax), ("unicode/utf8.first", laid_unicode_utf8_first)], narrowed := true }
def ScriptReadsUptoSaid : Prop := scriptReadsUptoRow.holds Tryz.pinned (OpenSpec.upto scriptReadsSpec)

/-- 'mezzotintlaw26.ScriptFaults', WHERE WHAT IT READS IS OF BULK AT MOST 1048576: true; the input reads as it did. -/
def scriptFaultsUptoRow : OpenClaim := { program := "ytjghbcjnplcleaagreatdoor", sum := "60c20497d0c56823ddc2645c43ed23589281e6115794aec5f3c910262560391c", func := "mezzotint/mezzotintlaw26.ScriptFaults", spec := "scriptFaults", inPlace := ["internal/abi.NoEscape", "internal/bytealg.CountString", "internal/bytealg.IndexByteString", "internal/bytealg.IndexString"], unfollowed := true, recurses := true, named := ["mezzotint/font.names", "internal/strconv.uint64pow10", "math/bits.deBruijn32tab", "math/bits.deBruijn64tab", "unicode/utf8.first", "unicode/utf8.acceptRanges", "internal/bytealg.MaxLen", "strconv.ErrSyntax", "strconv.ErrRange"], apart := false, laid := [("math/bits.deBruijn32tab", laid_math_bits_deBruijn32tab), ("math/bits.deBruijn64tab", laid_math_bits_deBruijn64tab), ("internal/strconv.uint64pow10", laid_internal_strconv_uint64pow10), ("mezzotint/font.names", laid_mezzotint_font_names), ("unicode/utf8.acceptRanges", laid_unicode_utf8_acceptRanges), ("strconv.ErrRange", laid_strconv_ErrRange), ("strconv.ErrSyntax", laid_strconv_ErrSyntax), ("unicode/utf8.first", laid_unicode_utf8_first)], narrowed := true }
def ScriptFaultsUptoSaid : Prop := scriptFaultsUptoRow.holds Tryz.pinned (OpenSpec.upto scriptFaultsSpec)

end Rows
end Go.Proofs.YtjghbcjnplcleaaGreatDoor
