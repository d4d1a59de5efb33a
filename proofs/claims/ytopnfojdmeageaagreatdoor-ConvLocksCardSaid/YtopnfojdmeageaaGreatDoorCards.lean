/-
  DERIVED. GIVEN WITH THE SEED: THE CARDS: each row of YtopnfojdmeageaaGreatDoorRows.lean that lists a variable, with what it lists TIED to the program's text (the seventh form; the later family's looks); each row that meets fmt, with fmt's text TOLD by the authors' own Lean function (tested against real Go, not proved from fmt's source: count such statements apart). THE CARD IS WHAT COUNTS. Prove the row's statement (the work); the ties are given (YtopnfojdmeageaaGreatDoorTie.lean); close each card by the builder's one call (the guide's Derived/Test/ToyasCard.lean, 'card_holds'). Laid BY PROGRAM, IN A SANDBOX (cutbox-door.mjs). By AI agents, Wed Nov 11 2026. No macro, syntax, notation, axiom, sorry.
-/
import Derived.Test.YtopnfojdmeageaaGreatDoorRows
import GoSem.ClaimSeven
namespace Go.Proofs.YtopnfojdmeageaaGreatDoor
namespace Rows

/-- THE TIED CARD OF 'mezzotintlaw10.ConvBack'. -/
def convBackCard : Claim7 := { stood := { row := convBackRow, standIns := [], harness := (true, "d971b9090ba2e1287e3f462bff359a96bcb5d72bf8378f1ecf1dbfea521bdb71"), looks := false }, kinds := [], alts := [], laidByText := true, laidKinds := [.data, .data, .data, .data, .data, .pinned, .pinned], laidTests := true, laidLooks := .later }
def ConvBackCardSaid : Prop := Claim7.holds Tryz.pinned (.plain (OpenSpec.ofChange convBackSpec)) convBackCard

/-- THE TIED CARD OF 'mezzotintlaw10.ConvRadix'. -/
def convRadixCard : Claim7 := { stood := { row := convRadixRow, standIns := [], harness := (true, "d971b9090ba2e1287e3f462bff359a96bcb5d72bf8378f1ecf1dbfea521bdb71"), looks := false }, kinds := [], alts := [], laidByText := true, laidKinds := [.data, .data, .data, .data, .data, .pinned, .pinned], laidTests := true, laidLooks := .later }
def ConvRadixCardSaid : Prop := Claim7.holds Tryz.pinned (.plain (OpenSpec.ofChange convRadixSpec)) convRadixCard

/-- THE TIED CARD OF 'mezzotintlaw10.ConvLocks'. -/
def convLocksCard : Claim7 := { stood := { row := convLocksRow, standIns := [], harness := (true, "d971b9090ba2e1287e3f462bff359a96bcb5d72bf8378f1ecf1dbfea521bdb71"), looks := false }, kinds := [], alts := [], laidByText := true, laidKinds := [.data, .data, .data, .data, .data, .pinned, .pinned], laidTests := true, laidLooks := .later }
def ConvLocksCardSaid : Prop := Claim7.holds Tryz.pinned (.plain (OpenSpec.ofChange convLocksSpec)) convLocksCard

/-- THE SECOND FORM's CARD OF 'mezzotintlaw10.ConvBack'. -/
def convBackUptoCard : Claim7 := { stood := { row := convBackUptoRow, standIns := [], harness := (true, "d971b9090ba2e1287e3f462bff359a96bcb5d72bf8378f1ecf1dbfea521bdb71"), looks := false }, kinds := [], alts := [], laidByText := true, laidKinds := [.data, .data, .data, .data, .data, .pinned, .pinned], laidTests := true, laidLooks := .later }
def ConvBackUptoCardSaid : Prop := Claim7.holds Tryz.pinned (.plain (OpenSpec.upto convBackSpec)) convBackUptoCard

/-- THE SECOND FORM's CARD OF 'mezzotintlaw10.ConvRadix'. -/
def convRadixUptoCard : Claim7 := { stood := { row := convRadixUptoRow, standIns := [], harness := (true, "d971b9090ba2e1287e3f462bff359a96bcb5d72bf8378f1ecf1dbfea521bdb71"), looks := false }, kinds := [], alts := [], laidByText := true, laidKinds := [.data, .data, .data, .data, .data, .pinned, .pinned], laidTests := true, laidLooks := .later }
def ConvRadixUptoCardSaid : Prop := Claim7.holds Tryz.pinned (.plain (OpenSpec.upto convRadixSpec)) convRadixUptoCard

/-- THE SECOND FORM's CARD OF 'mezzotintlaw10.ConvLocks'. -/
def convLocksUptoCard : Claim7 := { stood := { row := convLocksUptoRow, standIns := [], harness := (true, "d971b9090ba2e1287e3f462bff359a96bcb5d72bf8378f1ecf1dbfea521bdb71"), looks := false }, kinds := [], alts := [], laidByText := true, laidKinds := [.data, .data, .data, .data, .data, .pinned, .pinned], laidTests := true, laidLooks := .later }
def ConvLocksUptoCardSaid : Prop := Claim7.holds Tryz.pinned (.plain (OpenSpec.upto convLocksSpec)) convLocksUptoCard
end Rows
end Go.Proofs.YtopnfojdmeageaaGreatDoor
