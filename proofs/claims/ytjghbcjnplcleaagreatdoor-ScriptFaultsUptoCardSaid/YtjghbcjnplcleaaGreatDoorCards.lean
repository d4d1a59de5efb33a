/-
  DERIVED. GIVEN WITH THE SEED: THE CARDS: each row of YtjghbcjnplcleaaGreatDoorRows.lean that lists a variable, with what it lists TIED to the program's text (the seventh form; the later family's looks); each row that meets fmt, with fmt's text TOLD by the authors' own Lean function (tested against real Go, not proved from fmt's source: count such statements apart). THE CARD IS WHAT COUNTS. Prove the row's statement (the work); the ties are given (YtjghbcjnplcleaaGreatDoorTie.lean); close each card by the builder's one call (the guide's Derived/Test/ToyasCard.lean, 'card_holds'). Laid BY PROGRAM, IN A SANDBOX (cutbox-door.mjs). By AI agents, Wed Nov 11 2026. No macro, syntax, notation, axiom, sorry.
-/
import Derived.Test.YtjghbcjnplcleaaGreatDoorRows
import GoSem.ClaimSeven
namespace Go.Proofs.YtjghbcjnplcleaaGreatDoor
namespace Rows

/-- THE TIED CARD OF 'mezzotintlaw19.PlexPlaces'. -/
def plexPlacesCard : Claim7 := { stood := { row := plexPlacesRow, standIns := [], harness := (true, "b2b1984dbc1fba08a76e8396faef0c8390caf2039297b17cf678c2bb8ab7c031"), looks := true }, kinds := [], alts := [], laidByText := true, laidKinds := [.data, .pinned], laidTests := true, laidLooks := .later }
def PlexPlacesCardSaid : Prop := Claim7.holds Tryz.pinned (.plain (OpenSpec.ofChange plexPlacesSpec)) plexPlacesCard

/-- THE TIED CARD OF 'mezzotintlaw19.PlexBack'. -/
def plexBackCard : Claim7 := { stood := { row := plexBackRow, standIns := [], harness := (true, "b2b1984dbc1fba08a76e8396faef0c8390caf2039297b17cf678c2bb8ab7c031"), looks := true }, kinds := [], alts := [], laidByText := true, laidKinds := [.data, .pinned], laidTests := true, laidLooks := .later }
def PlexBackCardSaid : Prop := Claim7.holds Tryz.pinned (.plain (OpenSpec.ofChange plexBackSpec)) plexBackCard

/-- THE TIED CARD OF 'mezzotintlaw19.PlexCuts'. -/
def plexCutsCard : Claim7 := { stood := { row := plexCutsRow, standIns := [], harness := (true, "b2b1984dbc1fba08a76e8396faef0c8390caf2039297b17cf678c2bb8ab7c031"), looks := true }, kinds := [], alts := [], laidByText := true, laidKinds := [.data, .pinned], laidTests := true, laidLooks := .later }
def PlexCutsCardSaid : Prop := Claim7.holds Tryz.pinned (.plain (OpenSpec.ofChange plexCutsSpec)) plexCutsCard

/-- THE TIED CARD OF 'mezzotintlaw19.PlexTokens'. -/
def plexTokensCard : Claim7 := { stood := { row := plexTokensRow, standIns := [], harness := (true, "b2b1984dbc1fba08a76e8396faef0c8390caf2039297b17cf678c2bb8ab7c031"), looks := true }, kinds := [], alts := [], laidByText := true, laidKinds := [.data, .pinned], laidTests := true, laidLooks := .later }
def PlexTokensCardSaid : Prop := Claim7.holds Tryz.pinned (.plain (OpenSpec.ofChange plexTokensSpec)) plexTokensCard

/-- THE TIED CARD OF 'mezzotintlaw26.ScriptBack'. -/
def scriptBackCard : Claim7 := { stood := { row := scriptBackRow, standIns := [], harness := (true, "b2b1984dbc1fba08a76e8396faef0c8390caf2039297b17cf678c2bb8ab7c031"), looks := true }, kinds := [], alts := [], laidByText := true, laidKinds := [.data, .data, .data, .data, .data, .sentinel, .sentinel, .pinned], laidTests := true, laidLooks := .later }
def ScriptBackCardSaid : Prop := Claim7.holds Tryz.pinned (.plain (OpenSpec.ofChange scriptBackSpec)) scriptBackCard

/-- THE TIED CARD OF 'mezzotintlaw26.ScriptReads'. -/
def scriptReadsCard : Claim7 := { stood := { row := scriptReadsRow, standIns := [], harness := (true, "b2b1984dbc1fba08a76e8396faef0c8390caf2039297b17cf678c2bb8ab7c031"), looks := true }, kinds := [], alts := [], laidByText := true, laidKinds := [.data, .data, .data, .data, .data, .sentinel, .sentinel, .pinned], laidTests := true, laidLooks := .later }
def ScriptReadsCardSaid : Prop := Claim7.holds Tryz.pinned (.plain (OpenSpec.ofChange scriptReadsSpec)) scriptReadsCard

/-- THE TIED CARD OF 'mezzotintlaw26.ScriptFaults'. -/
def scriptFaultsCard : Claim7 := { stood := { row := scriptFaultsRow, standIns := [], harness := (true, "b2b1984dbc1fba08a76e8396faef0c8390caf2039297b17cf678c2bb8ab7c031"), looks := true }, kinds := [], alts := [], laidByText := true, laidKinds := [.data, .data, .data, .data, .data, .sentinel, .sentinel, .pinned], laidTests := true, laidLooks := .later }
def ScriptFaultsCardSaid : Prop := Claim7.holds Tryz.pinned (.plain (OpenSpec.ofChange scriptFaultsSpec)) scriptFaultsCard

/-- THE SECOND FORM's CARD OF 'mezzotintlaw19.PlexPlaces'. -/
def plexPlacesUptoCard : Claim7 := { stood := { row := plexPlacesUptoRow, standIns := [], harness := (true, "b2b1984dbc1fba08a76e8396faef0c8390caf2039297b17cf678c2bb8ab7c031"), looks := true }, kinds := [], alts := [], laidByText := true, laidKinds := [.data, .pinned], laidTests := true, laidLooks := .later }
def PlexPlacesUptoCardSaid : Prop := Claim7.holds Tryz.pinned (.plain (OpenSpec.upto plexPlacesSpec)) plexPlacesUptoCard

/-- THE SECOND FORM's CARD OF 'mezzotintlaw19.PlexBack'. -/
def plexBackUptoCard : Claim7 := { stood := { row := plexBackUptoRow, standIns := [], harness := (true, "b2b1984dbc1fba08a76e8396faef0c8390caf2039297b17cf678c2bb8ab7c031"), looks := true }, kinds := [], alts := [], laidByText := true, laidKinds := [.data, .pinned], laidTests := true, laidLooks := .later }
def PlexBackUptoCardSaid : Prop := Claim7.holds Tryz.pinned (.plain (OpenSpec.upto plexBackSpec)) plexBackUptoCard

/-- THE SECOND FORM's CARD OF 'mezzotintlaw19.PlexCuts'. -/
def plexCutsUptoCard : Claim7 := { stood := { row := plexCutsUptoRow, standIns := [], harness := (true, "b2b1984dbc1fba08a76e8396faef0c8390caf2039297b17cf678c2bb8ab7c031"), looks := true }, kinds := [], alts := [], laidByText := true, laidKinds := [.data, .pinned], laidTests := true, laidLooks := .later }
def PlexCutsUptoCardSaid : Prop := Claim7.holds Tryz.pinned (.plain (OpenSpec.upto plexCutsSpec)) plexCutsUptoCard

/-- THE SECOND FORM's CARD OF 'mezzotintlaw19.PlexTokens'. -/
def plexTokensUptoCard : Claim7 := { stood := { row := plexTokensUptoRow, standIns := [], harness := (true, "b2b1984dbc1fba08a76e8396faef0c8390caf2039297b17cf678c2bb8ab7c031"), looks := true }, kinds := [], alts := [], laidByText := true, laidKinds := [.data, .pinned], laidTests := true, laidLooks := .later }
def PlexTokensUptoCardSaid : Prop := Claim7.holds Tryz.pinned (.plain (OpenSpec.upto plexTokensSpec)) plexTokensUptoCard

/-- THE SECOND FORM's CARD OF 'mezzotintlaw26.ScriptBack'. -/
def scriptBackUptoCard : Claim7 := { stood := { row := scriptBackUptoRow, standIns := [], harness := (true, "b2b1984dbc1fba08a76e8396faef0c8390caf2039297b17cf678c2bb8ab7c031"), looks := true }, kinds := [], alts := [], laidByText := true, laidKinds := [.data, .data, .data, .data, .data, .sentinel, .sentinel, .pinned], laidTests := true, laidLooks := .later }
def ScriptBackUptoCardSaid : Prop := Claim7.holds Tryz.pinned (.plain (OpenSpec.upto scriptBackSpec)) scriptBackUptoCard

/-- THE SECOND FORM's CARD OF 'mezzotintlaw26.ScriptReads'. -/
def scriptReadsUptoCard : Claim7 := { stood := { row := scriptReadsUptoRow, standIns := [], harness := (true, "b2b1984dbc1fba08a76e8396faef0c8390caf2039297b17cf678c2bb8ab7c031"), looks := true }, kinds := [], alts := [], laidByText := true, laidKinds := [.data, .data, .data, .data, .data, .sentinel, .sentinel, .pinned], laidTests := true, laidLooks := .later }
def ScriptReadsUptoCardSaid : Prop := Claim7.holds Tryz.pinned (.plain (OpenSpec.upto scriptReadsSpec)) scriptReadsUptoCard

/-- THE SECOND FORM's CARD OF 'mezzotintlaw26.ScriptFaults'. -/
def scriptFaultsUptoCard : Claim7 := { stood := { row := scriptFaultsUptoRow, standIns := [], harness := (true, "b2b1984dbc1fba08a76e8396faef0c8390caf2039297b17cf678c2bb8ab7c031"), looks := true }, kinds := [], alts := [], laidByText := true, laidKinds := [.data, .data, .data, .data, .data, .sentinel, .sentinel, .pinned], laidTests := true, laidLooks := .later }
def ScriptFaultsUptoCardSaid : Prop := Claim7.holds Tryz.pinned (.plain (OpenSpec.upto scriptFaultsSpec)) scriptFaultsUptoCard
end Rows
end Go.Proofs.YtjghbcjnplcleaaGreatDoor
