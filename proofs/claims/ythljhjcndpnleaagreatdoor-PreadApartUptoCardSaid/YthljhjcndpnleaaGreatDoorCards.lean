/-
  DERIVED. GIVEN WITH THE SEED: THE CARDS: each row of YthljhjcndpnleaaGreatDoorRows.lean that lists a variable, with what it lists TIED to the program's text (the seventh form; the later family's looks); each row that meets fmt, with fmt's text TOLD by the authors' own Lean function (tested against real Go, not proved from fmt's source: count such statements apart). THE CARD IS WHAT COUNTS. Prove the row's statement (the work); the ties are given (YthljhjcndpnleaaGreatDoorTie.lean); close each card by the builder's one call (the guide's Derived/Test/ToyasCard.lean, 'card_holds'). Laid BY PROGRAM, IN A SANDBOX (cutbox-door.mjs). By AI agents, Wed Nov 11 2026. No macro, syntax, notation, axiom, sorry.
-/
import Derived.Test.YthljhjcndpnleaaGreatDoorRows
import GoSem.ClaimSeven
namespace Go.Proofs.YthljhjcndpnleaaGreatDoor
namespace Rows

/-- THE TIED CARD OF 'mezzotintlaw23.PreadBack'. -/
def preadBackCard : Claim7 := { stood := { row := preadBackRow, standIns := [], harness := (true, "3e3610dfc2b54a40d23006566f235b47b76b7218e4cf2339438d94997d57d316"), looks := true }, kinds := [], alts := [], laidByText := true, laidKinds := [.data, .pinned], laidTests := true, laidLooks := .later }
def PreadBackCardSaid : Prop := Claim7.holds Tryz.pinned (.plain (OpenSpec.ofChange preadBackSpec)) preadBackCard

/-- THE TIED CARD OF 'mezzotintlaw23.PreadChains'. -/
def preadChainsCard : Claim7 := { stood := { row := preadChainsRow, standIns := [], harness := (true, "3e3610dfc2b54a40d23006566f235b47b76b7218e4cf2339438d94997d57d316"), looks := true }, kinds := [], alts := [], laidByText := true, laidKinds := [.data, .pinned], laidTests := true, laidLooks := .later }
def PreadChainsCardSaid : Prop := Claim7.holds Tryz.pinned (.plain (OpenSpec.ofChange preadChainsSpec)) preadChainsCard

/-- THE TIED CARD OF 'mezzotintlaw23.PreadApart'. -/
def preadApartCard : Claim7 := { stood := { row := preadApartRow, standIns := [], harness := (true, "3e3610dfc2b54a40d23006566f235b47b76b7218e4cf2339438d94997d57d316"), looks := true }, kinds := [], alts := [], laidByText := true, laidKinds := [.data, .pinned], laidTests := true, laidLooks := .later }
def PreadApartCardSaid : Prop := Claim7.holds Tryz.pinned (.plain (OpenSpec.ofChange preadApartSpec)) preadApartCard

/-- THE SECOND FORM's CARD OF 'mezzotintlaw23.PreadBack'. -/
def preadBackUptoCard : Claim7 := { stood := { row := preadBackUptoRow, standIns := [], harness := (true, "3e3610dfc2b54a40d23006566f235b47b76b7218e4cf2339438d94997d57d316"), looks := true }, kinds := [], alts := [], laidByText := true, laidKinds := [.data, .pinned], laidTests := true, laidLooks := .later }
def PreadBackUptoCardSaid : Prop := Claim7.holds Tryz.pinned (.plain (OpenSpec.upto preadBackSpec)) preadBackUptoCard

/-- THE SECOND FORM's CARD OF 'mezzotintlaw23.PreadChains'. -/
def preadChainsUptoCard : Claim7 := { stood := { row := preadChainsUptoRow, standIns := [], harness := (true, "3e3610dfc2b54a40d23006566f235b47b76b7218e4cf2339438d94997d57d316"), looks := true }, kinds := [], alts := [], laidByText := true, laidKinds := [.data, .pinned], laidTests := true, laidLooks := .later }
def PreadChainsUptoCardSaid : Prop := Claim7.holds Tryz.pinned (.plain (OpenSpec.upto preadChainsSpec)) preadChainsUptoCard

/-- THE SECOND FORM's CARD OF 'mezzotintlaw23.PreadApart'. -/
def preadApartUptoCard : Claim7 := { stood := { row := preadApartUptoRow, standIns := [], harness := (true, "3e3610dfc2b54a40d23006566f235b47b76b7218e4cf2339438d94997d57d316"), looks := true }, kinds := [], alts := [], laidByText := true, laidKinds := [.data, .pinned], laidTests := true, laidLooks := .later }
def PreadApartUptoCardSaid : Prop := Claim7.holds Tryz.pinned (.plain (OpenSpec.upto preadApartSpec)) preadApartUptoCard
end Rows
end Go.Proofs.YthljhjcndpnleaaGreatDoor
