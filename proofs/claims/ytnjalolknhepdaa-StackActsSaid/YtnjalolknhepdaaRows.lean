/-
  No cell of these rows narrows 'for every input' (looked for: loops, veiled, ifaces, maps, wideKeys, modest, calm, conditions, laid).
  DERIVED. THE GIVEN ROWS OF THIS SEAT. 4 by the template 'for every input the law returns true; each argument reads behind the call as it read before'; 0 by the template 'total and deterministic' (their statements: YtnjalolknhepdaaTotals.lean).
  GIVEN WITH THE SEED: the statements are not yours to turn. If you find one false, say at which input.
  Laid BY PROGRAM, IN A SANDBOX (cutbox-rows.mjs): the forced cells as the released guide's own fill.sh prints them over the translation f9a26d6dbe9a5d39… (all of the seat's roots in one cut). By AI agents, Wed Nov 11 2026. No macro, syntax, notation, axiom, sorry.
-/
import Derived.Test.YtnjalolknhepdaaChecked
import GoSem.Claim
import GoSem.ClaimJoined
import GoSem.ClaimMapViews
import Derived.JoinedTies
import Derived.KernelRfl
namespace Go.Proofs.Ytnjalolknhepdaa
/- THE CELL 'sum', in the pinned program and in every row, IS THE sha256 OF THE DUMP (.gsa) THAT YtnjalolknhepdaaProg.lean LOADS. Nothing in Lean hashes anything: it is a label: what it is worth is what the hold of that sum in a sandbox is worth. -/
noncomputable def Try.pinned : Pinned := { name := "ytnjalolknhepdaa", sum := "f9a26d6dbe9a5d393fc707db472feb315ada6bf12a6561755107cac1d140d452", checked := Try.checked }
namespace Rows
def none {H : Type} : Left H := { results := [], args := [] }

/-- 'mezzotintlaw02.DecPrints': WHATEVER THE INPUT: true; the input reads as it did. -/
def decPrintsSpec : ChangeSpec := { name := "decPrints", fn := fun _ => fun
  | [d] => { results := [.lit (.bool true)], args := [d] }
  | _ => none }
def decPrintsRow : OpenClaim := { program := "ytnjalolknhepdaa", sum := "f9a26d6dbe9a5d393fc707db472feb315ada6bf12a6561755107cac1d140d452", func := "mezzotint/mezzotintlaw02.DecPrints", spec := "decPrints", inPlace := ["internal/abi.NoEscape"], recurses := true, apart := false }
def DecPrintsSaid : Prop := decPrintsRow.holds Try.pinned (OpenSpec.ofChange decPrintsSpec)

/-- ITS FALSE NEIGHBOUR: 'it returns false'. Refute it at one input. -/
def decPrintsWrong : ChangeSpec := { name := "decPrints", fn := fun _ => fun
  | [d] => { results := [.lit (.bool false)], args := [d] }
  | _ => none }
def DecPrintsWrongFalsely : Prop := decPrintsRow.holds Try.pinned (OpenSpec.ofChange decPrintsWrong)

/-- 'mezzotintlaw07.StackRolls': WHATEVER THE INPUT: true; the input reads as it did. -/
def stackRollsSpec : ChangeSpec := { name := "stackRolls", fn := fun _ => fun
  | [d1, d2, d3] => { results := [.lit (.bool true)], args := [d1, d2, d3] }
  | _ => none }
def stackRollsRow : OpenClaim := { program := "ytnjalolknhepdaa", sum := "f9a26d6dbe9a5d393fc707db472feb315ada6bf12a6561755107cac1d140d452", func := "mezzotint/mezzotintlaw07.StackRolls", spec := "stackRolls", apart := false }
def StackRollsSaid : Prop := stackRollsRow.holds Try.pinned (OpenSpec.ofChange stackRollsSpec)

/-- ITS FALSE NEIGHBOUR: 'it returns false'. Refute it at one input. -/
def stackRollsWrong : ChangeSpec := { name := "stackRolls", fn := fun _ => fun
  | [d1, d2, d3] => { results := [.lit (.bool false)], args := [d1, d2, d3] }
  | _ => none }
def StackRollsWrongFalsely : Prop := stackRollsRow.holds Try.pinned (OpenSpec.ofChange stackRollsWrong)

/-- 'mezzotintlaw07.StackActs': WHATEVER THE INPUT: true; the input reads as it did. -/
def stackActsSpec : ChangeSpec := { name := "stackActs", fn := fun _ => fun
  | [d1, d2] => { results := [.lit (.bool true)], args := [d1, d2] }
  | _ => none }
def stackActsRow : OpenClaim := { program := "ytnjalolknhepdaa", sum := "f9a26d6dbe9a5d393fc707db472feb315ada6bf12a6561755107cac1d140d452", func := "mezzotint/mezzotintlaw07.StackActs", spec := "stackActs", apart := false }
def StackActsSaid : Prop := stackActsRow.holds Try.pinned (OpenSpec.ofChange stackActsSpec)

/-- ITS FALSE NEIGHBOUR: 'it returns false'. Refute it at one input. -/
def stackActsWrong : ChangeSpec := { name := "stackActs", fn := fun _ => fun
  | [d1, d2] => { results := [.lit (.bool false)], args := [d1, d2] }
  | _ => none }
def StackActsWrongFalsely : Prop := stackActsRow.holds Try.pinned (OpenSpec.ofChange stackActsWrong)

/-- 'mezzotintlaw07.StackKeeps': WHATEVER THE INPUT: true; the input reads as it did. -/
def stackKeepsSpec : ChangeSpec := { name := "stackKeeps", fn := fun _ => fun
  | [d] => { results := [.lit (.bool true)], args := [d] }
  | _ => none }
def stackKeepsRow : OpenClaim := { program := "ytnjalolknhepdaa", sum := "f9a26d6dbe9a5d393fc707db472feb315ada6bf12a6561755107cac1d140d452", func := "mezzotint/mezzotintlaw07.StackKeeps", spec := "stackKeeps", apart := false }
def StackKeepsSaid : Prop := stackKeepsRow.holds Try.pinned (OpenSpec.ofChange stackKeepsSpec)

/-- ITS FALSE NEIGHBOUR: 'it returns false'. Refute it at one input. -/
def stackKeepsWrong : ChangeSpec := { name := "stackKeeps", fn := fun _ => fun
  | [d] => { results := [.lit (.bool false)], args := [d] }
  | _ => none }
def StackKeepsWrongFalsely : Prop := stackKeepsRow.holds Try.pinned (OpenSpec.ofChange stackKeepsWrong)

/- THE SECOND FORM. 'bulk': how many values and letters a reading holds, each counted each time it is reached (what is shared counts as often as it is met; a slice's spare places count too). A statement '..UptoSaid' is the law's where the arguments, and the package variables that the reading takes, are together of bulk at most 1048576: NARROWER than '..Said'. Prove '..Said' where nothing that the law and all that it calls make is longer than what came in: it says more and counts as full. Else prove '..UptoSaid'. A law counts once. -/
mutual
def uptoBulk {H : Type} : DataW H → Nat
  | .lit (.string bytes) => bytes.length + 1
  | .lit _ => 1
  | .nil => 1
  | .ptr d => uptoBulk d + 1
  | .slice elems spare => uptoBulkAll elems + uptoBulkAll spare + 1
  | .agg parts => uptoBulkAll parts + 1
  | .iface _ d => uptoBulk d + 1
  | .map entries => uptoBulkEntries entries + 1
  | .held _ => 1
def uptoBulkAll {H : Type} : List (DataW H) → Nat
  | [] => 0
  | d :: r => uptoBulk d + uptoBulkAll r
def uptoBulkEntries {H : Type} : List (Lit × DataW H) → Nat
  | [] => 0
  | x :: r => uptoBulkEntry x + uptoBulkEntries r
def uptoBulkEntry {H : Type} : Lit × DataW H → Nat
  | (.string bytes, d) => bytes.length + uptoBulk d + 1
  | (_, d) => uptoBulk d + 1
 end
def uptoSmall : (H : Type) → List (DataW H) → Bool := fun _ ds => decide (uptoBulkAll ds ≤ 1048576)
def OpenSpec.upto (s : _root_.Go.ChangeSpec) : _root_.Go.OpenSpec := { _root_.Go.OpenSpec.ofChange s with cond := some uptoSmall }

/-- 'mezzotintlaw02.DecPrints', WHERE WHAT IT READS IS OF BULK AT MOST 1048576: true; the input reads as it did. -/
def decPrintsUptoRow : OpenClaim := { program := "ytnjalolknhepdaa", sum := "f9a26d6dbe9a5d393fc707db472feb315ada6bf12a6561755107cac1d140d452", func := "mezzotint/mezzotintlaw02.DecPrints", spec := "decPrints", inPlace := ["internal/abi.NoEscape"], recurses := true, apart := false, narrowed := true }
def DecPrintsUptoSaid : Prop := decPrintsUptoRow.holds Try.pinned (OpenSpec.upto decPrintsSpec)

/-- 'mezzotintlaw07.StackRolls', WHERE WHAT IT READS IS OF BULK AT MOST 1048576: true; the input reads as it did. -/
def stackRollsUptoRow : OpenClaim := { program := "ytnjalolknhepdaa", sum := "f9a26d6dbe9a5d393fc707db472feb315ada6bf12a6561755107cac1d140d452", func := "mezzotint/mezzotintlaw07.StackRolls", spec := "stackRolls", apart := false, narrowed := true }
def StackRollsUptoSaid : Prop := stackRollsUptoRow.holds Try.pinned (OpenSpec.upto stackRollsSpec)

/-- 'mezzotintlaw07.StackActs', WHERE WHAT IT READS IS OF BULK AT MOST 1048576: true; the input reads as it did. -/
def stackActsUptoRow : OpenClaim := { program := "ytnjalolknhepdaa", sum := "f9a26d6dbe9a5d393fc707db472feb315ada6bf12a6561755107cac1d140d452", func := "mezzotint/mezzotintlaw07.StackActs", spec := "stackActs", apart := false, narrowed := true }
def StackActsUptoSaid : Prop := stackActsUptoRow.holds Try.pinned (OpenSpec.upto stackActsSpec)

/-- 'mezzotintlaw07.StackKeeps', WHERE WHAT IT READS IS OF BULK AT MOST 1048576: true; the input reads as it did. -/
def stackKeepsUptoRow : OpenClaim := { program := "ytnjalolknhepdaa", sum := "f9a26d6dbe9a5d393fc707db472feb315ada6bf12a6561755107cac1d140d452", func := "mezzotint/mezzotintlaw07.StackKeeps", spec := "stackKeeps", apart := false, narrowed := true }
def StackKeepsUptoSaid : Prop := stackKeepsUptoRow.holds Try.pinned (OpenSpec.upto stackKeepsSpec)

end Rows
end Go.Proofs.Ytnjalolknhepdaa
