/-
  DERIVED. GIVEN WITH THE SEED: THE CARDS: each row of YthmhfjeojkbpfaaGreatDoorRows.lean that lists a variable, with what it lists TIED to the program's text (the seventh form; the later family's looks); each row that meets fmt, with fmt's text TOLD by the authors' own Lean function (tested against real Go, not proved from fmt's source: count such statements apart). THE CARD IS WHAT COUNTS. Prove the row's statement (the work); the ties are given (YthmhfjeojkbpfaaGreatDoorTie.lean); close each card by the builder's one call (the guide's Derived/Test/ToyasCard.lean, 'card_holds'). Laid BY PROGRAM, IN A SANDBOX (cutbox-door.mjs). By AI agents, Wed Nov 11 2026. No macro, syntax, notation, axiom, sorry.
-/
import Derived.Test.YthmhfjeojkbpfaaGreatDoorRows
import GoSem.ClaimSeven
namespace Go.Proofs.YthmhfjeojkbpfaaGreatDoor
namespace Rows

/-- THE TIED CARD OF 'mezzotintlaw21.ViewSound'. -/
def viewSoundCard : Claim7 := { stood := { row := viewSoundRow, standIns := [], harness := (true, "fc525a752c4127bbc5f43d7531b75a9e48a332c63d8339b5ec1ca1379ca75430"), looks := true }, kinds := [], alts := [], laidByText := true, laidKinds := [.data, .pinned], laidTests := true, laidLooks := .later }
def ViewSoundCardSaid : Prop := Claim7.holds Tryz.pinned (.plain (OpenSpec.ofChange viewSoundSpec)) viewSoundCard

/-- THE TIED CARD OF 'mezzotintlaw21.ViewBack'. -/
def viewBackCard : Claim7 := { stood := { row := viewBackRow, standIns := [], harness := (true, "fc525a752c4127bbc5f43d7531b75a9e48a332c63d8339b5ec1ca1379ca75430"), looks := true }, kinds := [], alts := [], laidByText := true, laidKinds := [.data, .pinned], laidTests := true, laidLooks := .later }
def ViewBackCardSaid : Prop := Claim7.holds Tryz.pinned (.plain (OpenSpec.ofChange viewBackSpec)) viewBackCard

/-- THE TIED CARD OF 'mezzotintlaw21.ViewMoved'. -/
def viewMovedCard : Claim7 := { stood := { row := viewMovedRow, standIns := [], harness := (true, "fc525a752c4127bbc5f43d7531b75a9e48a332c63d8339b5ec1ca1379ca75430"), looks := true }, kinds := [], alts := [], laidByText := true, laidKinds := [.data, .pinned], laidTests := true, laidLooks := .later }
def ViewMovedCardSaid : Prop := Claim7.holds Tryz.pinned (.plain (OpenSpec.ofChange viewMovedSpec)) viewMovedCard

/-- THE SECOND FORM's CARD OF 'mezzotintlaw21.ViewSound'. -/
def viewSoundUptoCard : Claim7 := { stood := { row := viewSoundUptoRow, standIns := [], harness := (true, "fc525a752c4127bbc5f43d7531b75a9e48a332c63d8339b5ec1ca1379ca75430"), looks := true }, kinds := [], alts := [], laidByText := true, laidKinds := [.data, .pinned], laidTests := true, laidLooks := .later }
def ViewSoundUptoCardSaid : Prop := Claim7.holds Tryz.pinned (.plain (OpenSpec.upto viewSoundSpec)) viewSoundUptoCard

/-- THE SECOND FORM's CARD OF 'mezzotintlaw21.ViewBack'. -/
def viewBackUptoCard : Claim7 := { stood := { row := viewBackUptoRow, standIns := [], harness := (true, "fc525a752c4127bbc5f43d7531b75a9e48a332c63d8339b5ec1ca1379ca75430"), looks := true }, kinds := [], alts := [], laidByText := true, laidKinds := [.data, .pinned], laidTests := true, laidLooks := .later }
def ViewBackUptoCardSaid : Prop := Claim7.holds Tryz.pinned (.plain (OpenSpec.upto viewBackSpec)) viewBackUptoCard

/-- THE SECOND FORM's CARD OF 'mezzotintlaw21.ViewMoved'. -/
def viewMovedUptoCard : Claim7 := { stood := { row := viewMovedUptoRow, standIns := [], harness := (true, "fc525a752c4127bbc5f43d7531b75a9e48a332c63d8339b5ec1ca1379ca75430"), looks := true }, kinds := [], alts := [], laidByText := true, laidKinds := [.data, .pinned], laidTests := true, laidLooks := .later }
def ViewMovedUptoCardSaid : Prop := Claim7.holds Tryz.pinned (.plain (OpenSpec.upto viewMovedSpec)) viewMovedUptoCard
end Rows
end Go.Proofs.YthmhfjeojkbpfaaGreatDoor
