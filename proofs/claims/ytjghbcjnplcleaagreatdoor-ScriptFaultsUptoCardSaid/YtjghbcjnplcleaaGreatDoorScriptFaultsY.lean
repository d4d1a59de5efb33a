/-
  The law ScriptFaults, in its second form: the first line that is none is told. Condition: the row's own, that what is read is of bulk at most 1048576.
-/
import Derived.Test.YtjghbcjnplcleaaGreatDoorSf6
namespace Go.Proofs.YtjghbcjnplcleaaGreatDoor
open Go.RowKit
open Go.Proofs.Tryz
section
open Go.ChangeShapes Go.WideShapes Go.ChangeAt Go.RowKit
open Go.ChangeMaps (open_string shut_string)
theorem closed0_ScriptFaults : (Rows.scriptFaultsUptoRow.inPlace == Tryz.pinned.checked.prog.inPlace 9) = true := by kernel_rfl
theorem closed1_ScriptFaults : (Rows.scriptFaultsUptoRow.unfollowed == Tryz.pinned.checked.prog.unfollowed 9) = true := by kernel_rfl
theorem closed2_ScriptFaults : (Rows.scriptFaultsUptoRow.recurses == Tryz.pinned.checked.prog.recurses 9) = true := by kernel_rfl
theorem closed3_ScriptFaults : (Rows.scriptFaultsUptoRow.named == Tryz.pinned.checked.prog.varsNamed 9) = true := by kernel_rfl
theorem closed4_ScriptFaults : (Rows.scriptFaultsUptoRow.lifted == Tryz.pinned.checked.prog.liftsFinal) = true := by kernel_rfl
theorem closed5_ScriptFaults : Tryz.pinned.checked.prog.mayEnter = true := by kernel_rfl
theorem closed6_ScriptFaults : Tryz.pinned.checked.prog.stopsHeard = true := by kernel_rfl
theorem closed_ScriptFaults : joinedFacts Tryz.pinned.checked.prog 9 Tryz.f9 (Rows.OpenSpec.upto Rows.scriptFaultsSpec).bare Rows.scriptFaultsUptoRow = true := by
 unfold joinedFacts
 rw [closed0_ScriptFaults, closed1_ScriptFaults, closed2_ScriptFaults, closed3_ScriptFaults, closed4_ScriptFaults, closed5_ScriptFaults, closed6_ScriptFaults]
 kernel_rfl
theorem said_ScriptFaults : Rows.ScriptFaultsUptoSaid :=
  OpenClaim.holds_of_cond 9 Tryz.f9 rfl rfl rfl rfl rfl rfl rfl ⟨rfl, rfl, rfl, rfl, rfl⟩ rfl rfl rfl rfl rfl kR func9 closed_ScriptFaults
    (dT kR) (by unfold Func.isWrapper; first | (rw [if_pos (by decide +kernel)]; kernel_rfl) | (rw [if_neg (by decide +kernel)]; exact ⟨rfl, rfl⟩))
    (fun os started H enc _ F => by rw [OpenClaim.pre_eq_preRow]; exact lifted_ScriptFaults os started H enc F)
theorem plain_ScriptFaults (f : FuncId) (fn : Func) (hf : Tryz.pinned.checked.prog.funcNamed "mezzotint/mezzotintlaw26.ScriptFaults" = some f) (hfn : Tryz.pinned.checked.prog.funcs[f]? = some fn) :
  true = Tryz.pinned.checked.prog.looks [] ∧ ∀ (j : Nat) t, fn.params[j]? = some t → Tryz.pinned.checked.prog.wantsStandIn t = false := by
 obtain rfl : f = 9 := Option.some.inj ((show Tryz.prog.funcNamed "mezzotint/mezzotintlaw26.ScriptFaults" = some 9 by kernel_rfl).symm.trans hf) |>.symm
 obtain rfl : fn = Tryz.f9 := (Option.some.inj (func9.symm.trans hfn)).symm
 refine ⟨by kernel_rfl, fun j t ht => ?_⟩
 rw [Tryz.params9] at ht
 have hmem := Array.mem_of_getElem? ht
 simp only [List.mem_toArray, List.mem_cons, List.not_mem_nil, or_false] at hmem
 rcases hmem with rfl | rfl | rfl | rfl
 ·
  exact (show Tryz.prog.wantsStandIn 47 = false by kernel_rfl)
 ·
  exact (show Tryz.prog.wantsStandIn 5 = false by kernel_rfl)
 ·
  exact (show Tryz.prog.wantsStandIn 5 = false by kernel_rfl)
 ·
  exact (show Tryz.prog.wantsStandIn 9 = false by kernel_rfl)
/-- THE CARD -/
theorem ScriptFaults_holds : Rows.ScriptFaultsUptoCardSaid :=
 Claim7.holds_tied_plain_at .later [] _ _ _ _ said_ScriptFaults (fun _ h => by cases h) kR (fun _ h => by cases h) scriptFaultsUpto_row_tie rfl ⟨rfl, rfl⟩ kR rfl plain_ScriptFaults kR
#print axioms ScriptFaults_holds
end
end Go.Proofs.YtjghbcjnplcleaaGreatDoor
