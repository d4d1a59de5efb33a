/-
  The law StackKeeps: for every slice of objects it returns true. No condition.
-/
import Derived.Test.YtnjalolknhepdaaStkF
import Derived.Test.YtnjalolknhepdaaStkL
import Derived.SizedLaws
import Derived.WalkKit
import Derived.Test.YtnjalolknhepdaaRows
namespace Go.Proofs.Ytnjalolknhepdaa
open Go.ChangeShapes Go.WideShapes Go.ChangeAt Go.RowKit

theorem stkOwn2 : ownKnob Try.prog.godebug = none := by kernel_rfl
theorem stkLaid2 : laidOutB Try.prog = true := by kernel_rfl
theorem law_StackKeeps (p : Option Addr) (l : List ObjV) (c : Nat) (w : World) (hrow : RowM objL w p l) (hnil : l = [] → c = 0 ∨ p ≠ none) (hby : l.length * 72 ≤ 140737488355328) :
    Calls Try.prog 6 #[.slice p l.length c] w fun e w' => e = .returned (.bool true) ∧ Below w.heap.size w w' := by
  rcases Nat.lt_or_ge 300 l.length with h | h
  · exact law_Keeps_long p l c w h hrow hby
  · exact law_Keeps_short p l c w h hrow hnil

theorem bytesObj : Try.prog.bytesOf 39 = 72 := by kernel_rfl
set_option maxRecDepth 100000 in
theorem lifted_StackKeeps (os : Os) (started : os.Started) (H : Type) (enc : TypeId × Value → H) :
    ReturnsInHanded {} Try.checked os 6 .any (Rows.stackKeepsSpec.pre6 enc Try.prog Try.f6 Rows.stackKeepsRow.domain false) (Rows.stackKeepsSpec.post enc Try.prog Try.f6 false true false false) := by
  refine returnsInHanded_of_change_sized (C := Try.checked) stkOwn2 started (by kernel_rfl) Try.func6
    (ChangeSpec.witness6 (enc := enc) (C := Try.checked) false ⟨#[], #[.slice none 0 0], []⟩ 8 (by kernel_rfl) (by kernel_rfl) (by kernel_rfl) (by kernel_rfl)) ?_
  intro W base args ds gs before hval0 hW hcnd hwt _
  have hval : ∀ (j : Nat) t v, Try.f6.params[j]? = some t → args[j]? = some v → Value.okWide Try.prog W .any base t v := hval0
  have hW' := hW
  obtain ⟨p, q, hA0, hV, rfl, hfz, hnd⟩ := hW
  have hA : DataW.TrodAll enc Try.prog W 0 (fun _ => true) true Try.f6.params.toList args.toList ds p := hA0
  rw [Try.params6] at hA hval
  obtain ⟨v0, vs0, d0, ds0, p0, q0, hargs0, rfl, rfl, h0, r0⟩ := trodAll_cons hA
  obtain ⟨rfl, rfl, rfl⟩ := trodAll_nil r0
  obtain rfl : args = #[v0] := by cases args; simp_all
  obtain ⟨rfl, rfl⟩ := trodVars_none hV
  obtain ⟨s0, l0, c0, rfl, hb0, hc0, hn0, hm0, -, hd0⟩ := open_objs (hval 0 25 v0 rfl rfl) h0
  have hby : l0.length * 72 ≤ 140737488355328 := by
    rcases hd0 with rfl | ⟨el, sp, rfl, hl⟩
    · decide
    · have h2 := sized_slice hwt (j := 0) (t := 25) rfl rfl Try.underlying25
      rw [show Try.checked.prog.bytesOf 39 = 72 from bytesObj] at h2
      have h3 : l0.length * 72 ≤ (el.length + sp.length) * 72 := Nat.mul_le_mul_right _ (by omega)
      have h4 : reachBytes = 140737488351232 := rfl
      omega
  clear hA0 hval0
  simp only [List.append_nil] at hW'
  refine (law_StackKeeps s0 l0 c0 W hb0 hn0 hby).mono fun e W' ⟨he, bel⟩ => ?_
  subst he
  exact ⟨_, rfl, _, _, _, [], _, [], hW', trodAll_mk1 (shut_bool Try.underlying4 _), (trodAll_cons_mk (trod_keep stkLaid2 (by kernel_rfl) (by kernel_rfl) h0 bel (fun x hx => hW'.lt x (by first | exact hx | (simp only [List.mem_append]; simp_all)))) trodAll_mk0), rfl, bel.frame _, fun h => by cases h⟩

/-- THE STATEMENT -/
theorem StackKeeps_holds : Rows.StackKeepsSaid :=
  OpenClaim.holds_of_wide 6 Try.f6 rfl rfl rfl rfl rfl rfl rfl ⟨rfl, rfl, rfl, rfl, rfl⟩ rfl rfl rfl rfl rfl (by kernel_rfl) Try.func6 (by kernel_rfl)
    (of_decide_eq_true (by kernel_rfl)) (by unfold Func.isWrapper; first | (rw [if_pos (by decide +kernel)]; kernel_rfl) | (rw [if_neg (by decide +kernel)]; exact ⟨rfl, rfl⟩))
    (fun os started H enc _ => lifted_StackKeeps os started H enc)
#print axioms StackKeeps_holds

end Go.Proofs.Ytnjalolknhepdaa
