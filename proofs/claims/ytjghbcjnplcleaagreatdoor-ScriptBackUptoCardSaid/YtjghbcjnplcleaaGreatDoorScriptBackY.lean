/-
  The law ScriptBack, in its second form: the text of pages is read as these pages. Condition: the row's own, that what is read is of bulk at most 1048576.
-/
import Derived.Test.YtjghbcjnplcleaaGreatDoorSb6
namespace Go.Proofs.YtjghbcjnplcleaaGreatDoor
open Go.RowKit
open Go.Proofs.Tryz
section
open Go.ChangeShapes Go.WideShapes Go.ChangeAt Go.RowKit
open Go.ChangeMaps (open_string shut_string)
theorem closed0_ScriptBack : (Rows.scriptBackUptoRow.inPlace == Tryz.pinned.checked.prog.inPlace 7) = true := by kernel_rfl
theorem closed1_ScriptBack : (Rows.scriptBackUptoRow.unfollowed == Tryz.pinned.checked.prog.unfollowed 7) = true := by kernel_rfl
theorem closed2_ScriptBack : (Rows.scriptBackUptoRow.recurses == Tryz.pinned.checked.prog.recurses 7) = true := by kernel_rfl
theorem closed3_ScriptBack : (Rows.scriptBackUptoRow.named == Tryz.pinned.checked.prog.varsNamed 7) = true := by kernel_rfl
theorem closed4_ScriptBack : (Rows.scriptBackUptoRow.lifted == Tryz.pinned.checked.prog.liftsFinal) = true := by kernel_rfl
theorem closed5_ScriptBack : Tryz.pinned.checked.prog.mayEnter = true := by kernel_rfl
theorem closed6_ScriptBack : Tryz.pinned.checked.prog.stopsHeard = true := by kernel_rfl
theorem closed_ScriptBack : joinedFacts Tryz.pinned.checked.prog 7 Tryz.f7 (Rows.OpenSpec.upto Rows.scriptBackSpec).bare Rows.scriptBackUptoRow = true := by
 unfold joinedFacts
 rw [closed0_ScriptBack, closed1_ScriptBack, closed2_ScriptBack, closed3_ScriptBack, closed4_ScriptBack, closed5_ScriptBack, closed6_ScriptBack]
 kernel_rfl
theorem said_ScriptBack : Rows.ScriptBackUptoSaid :=
  OpenClaim.holds_of_cond 7 Tryz.f7 rfl rfl rfl rfl rfl rfl rfl ⟨rfl, rfl, rfl, rfl, rfl⟩ rfl rfl rfl rfl rfl kR func7 closed_ScriptBack
    (dT kR) (by unfold Func.isWrapper; first | (rw [if_pos (by decide +kernel)]; kernel_rfl) | (rw [if_neg (by decide +kernel)]; exact ⟨rfl, rfl⟩))
    (fun os started H enc _ F => by rw [OpenClaim.pre_eq_preRow]; exact lifted_ScriptBack os started H enc F)
theorem plain_ScriptBack (f : FuncId) (fn : Func) (hf : Tryz.pinned.checked.prog.funcNamed "mezzotint/mezzotintlaw26.ScriptBack" = some f) (hfn : Tryz.pinned.checked.prog.funcs[f]? = some fn) :
  true = Tryz.pinned.checked.prog.looks [] ∧ ∀ (j : Nat) t, fn.params[j]? = some t → Tryz.pinned.checked.prog.wantsStandIn t = false := by
 obtain rfl : f = 7 := Option.some.inj ((show Tryz.prog.funcNamed "mezzotint/mezzotintlaw26.ScriptBack" = some 7 by kernel_rfl).symm.trans hf) |>.symm
 obtain rfl : fn = Tryz.f7 := (Option.some.inj (func7.symm.trans hfn)).symm
 refine ⟨by kernel_rfl, fun j t ht => ?_⟩
 rw [Tryz.params7] at ht
 obtain rfl : t = 47 := by simpa using Array.mem_of_getElem? ht
 exact (show Tryz.prog.wantsStandIn 47 = false by kernel_rfl)
/-- THE CARD -/
theorem ScriptBack_holds : Rows.ScriptBackUptoCardSaid :=
 Claim7.holds_tied_plain_at .later [] _ _ _ _ said_ScriptBack (fun _ h => by cases h) kR (fun _ h => by cases h) scriptBackUpto_row_tie rfl ⟨rfl, rfl⟩ kR rfl plain_ScriptBack kR
#print axioms ScriptBack_holds
end
end Go.Proofs.YtjghbcjnplcleaaGreatDoor
