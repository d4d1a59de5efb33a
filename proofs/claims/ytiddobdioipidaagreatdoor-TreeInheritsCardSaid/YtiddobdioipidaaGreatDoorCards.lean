/-
  DERIVED. GIVEN WITH THE SEED: THE CARDS: each row of YtiddobdioipidaaGreatDoorRows.lean that lists a variable, with what it lists TIED to the program's text (the seventh form; the later family's looks); each row that meets fmt, with fmt's text TOLD by the authors' own Lean function (tested against real Go, not proved from fmt's source: count such statements apart). THE CARD IS WHAT COUNTS. Prove the row's statement (the work); the ties are given (YtiddobdioipidaaGreatDoorTie.lean); close each card by the builder's one call (the guide's Derived/Test/ToyasCard.lean, 'card_holds'). Laid BY PROGRAM, IN A SANDBOX (cutbox-door.mjs). By AI agents, Wed Nov 11 2026. No macro, syntax, notation, axiom, sorry.
-/
import Derived.Test.YtiddobdioipidaaGreatDoorRows
import GoSem.ClaimSeven
namespace Go.Proofs.YtiddobdioipidaaGreatDoor
namespace Rows

/-- THE TIED CARD OF 'mezzotintlaw24.TreeInherits'. -/
def treeInheritsCard : Claim7 := { stood := { row := treeInheritsRow, standIns := [], harness := (true, "a82d501e9c10664f45a4d63b563b116fd660b0cc2eb1405e5a5288642b5b6c78"), looks := true }, kinds := [], alts := [], laidByText := true, laidKinds := [.data, .data, .pinned], laidTests := true, laidLooks := .later }
def TreeInheritsCardSaid : Prop := Claim7.holds Tryz.pinned (.plain (OpenSpec.ofChange treeInheritsSpec)) treeInheritsCard

/-- THE TIED CARD OF 'mezzotintlaw24.TreeJoined'. -/
def treeJoinedCard : Claim7 := { stood := { row := treeJoinedRow, standIns := [], harness := (true, "a82d501e9c10664f45a4d63b563b116fd660b0cc2eb1405e5a5288642b5b6c78"), looks := true }, kinds := [], alts := [], laidByText := true, laidKinds := [.data, .data, .pinned], laidTests := true, laidLooks := .later }
def TreeJoinedCardSaid : Prop := Claim7.holds Tryz.pinned (.plain (OpenSpec.ofChange treeJoinedSpec)) treeJoinedCard

/-- THE TIED CARD OF 'mezzotintlaw24.TreeRefuses'. -/
def treeRefusesCard : Claim7 := { stood := { row := treeRefusesRow, standIns := [], harness := (true, "a82d501e9c10664f45a4d63b563b116fd660b0cc2eb1405e5a5288642b5b6c78"), looks := true }, kinds := [], alts := [], laidByText := true, laidKinds := [.data, .data, .pinned], laidTests := true, laidLooks := .later }
def TreeRefusesCardSaid : Prop := Claim7.holds Tryz.pinned (.plain (OpenSpec.ofChange treeRefusesSpec)) treeRefusesCard

/-- THE SECOND FORM's CARD OF 'mezzotintlaw24.TreeInherits'. -/
def treeInheritsUptoCard : Claim7 := { stood := { row := treeInheritsUptoRow, standIns := [], harness := (true, "a82d501e9c10664f45a4d63b563b116fd660b0cc2eb1405e5a5288642b5b6c78"), looks := true }, kinds := [], alts := [], laidByText := true, laidKinds := [.data, .data, .pinned], laidTests := true, laidLooks := .later }
def TreeInheritsUptoCardSaid : Prop := Claim7.holds Tryz.pinned (.plain (OpenSpec.upto treeInheritsSpec)) treeInheritsUptoCard

/-- THE SECOND FORM's CARD OF 'mezzotintlaw24.TreeJoined'. -/
def treeJoinedUptoCard : Claim7 := { stood := { row := treeJoinedUptoRow, standIns := [], harness := (true, "a82d501e9c10664f45a4d63b563b116fd660b0cc2eb1405e5a5288642b5b6c78"), looks := true }, kinds := [], alts := [], laidByText := true, laidKinds := [.data, .data, .pinned], laidTests := true, laidLooks := .later }
def TreeJoinedUptoCardSaid : Prop := Claim7.holds Tryz.pinned (.plain (OpenSpec.upto treeJoinedSpec)) treeJoinedUptoCard

/-- THE SECOND FORM's CARD OF 'mezzotintlaw24.TreeRefuses'. -/
def treeRefusesUptoCard : Claim7 := { stood := { row := treeRefusesUptoRow, standIns := [], harness := (true, "a82d501e9c10664f45a4d63b563b116fd660b0cc2eb1405e5a5288642b5b6c78"), looks := true }, kinds := [], alts := [], laidByText := true, laidKinds := [.data, .data, .pinned], laidTests := true, laidLooks := .later }
def TreeRefusesUptoCardSaid : Prop := Claim7.holds Tryz.pinned (.plain (OpenSpec.upto treeRefusesSpec)) treeRefusesUptoCard
end Rows
end Go.Proofs.YtiddobdioipidaaGreatDoor
