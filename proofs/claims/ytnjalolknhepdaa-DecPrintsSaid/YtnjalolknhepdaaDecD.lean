/-
  The law DecPrints: for every n it returns true. No condition.
-/
import Derived.Test.YtnjalolknhepdaaDecC
import Derived.ProofKit
import Derived.OpenShut
namespace Go.Proofs.Ytnjalolknhepdaa
open Go.ChangeShapes Go.WideShapes Go.ChangeAt Go.RowKit

theorem digitsL_zero : digitsL 0 = [48] := by rw [digitsL_lt 0 (by omega)]; rfl
theorem digitsL_one : digitsL 1 = [49] := by rw [digitsL_lt 1 (by omega)]; rfl
theorem print_half : printL (norm 32768) = [48, 46, 53] := by
  have h1 : norm 32768 = 32768 := by rw [norm, fitsB_yes (by omega) (by omega)]; rfl
  have h2 : restL 32768 = [53] := by
    show fracL 32768 = _
    rw [fracL_step _ (by omega) (by omega), show 32768 * 10 % 65536 = 0 from rfl, fracL_zero]; rfl
  have h3 : wholeL 32768 = [48] := digitsL_zero
  rw [h1, printL, h2, h3]; rfl
theorem real_one : realL (norm 65536) = [49, 46, 48] := by
  have h1 : norm 65536 = 65536 := by rw [norm, fitsB_yes (by omega) (by omega)]; rfl
  have h2 : restL 65536 = [] := by rw [restL_iff]; rfl
  have h3 : wholeL 65536 = [49] := digitsL_one
  rw [h1, realL, h2, h3]; rfl

theorem bs_toList (l : List UInt8) : (bs l).toList = l := by simp [bs]

set_option maxHeartbeats 400000 in
theorem answers02 (w : World) :
    Calls Try.prog 7 #[] w fun e w' => e = .returned (.bool true) ∧ Below w.heap.size w w' := by
  have h1 := print_half
  have h2 := real_one
  have H1 := hid h1; have H2 := hid h2; clear h1 h2
  have hT := bs_toList
  go_enter Try.func7, Try.ntmps7
  go_wp2_with first | (go_at_call 8; go_must (refine (dec_Print _ _).mono ?_); rintro e w1 ⟨rfl, hb1⟩; rw [H1.out]) | (go_at_call 10; go_must (refine (dec_PrintReal _ _).mono ?_); rintro e w2 ⟨rfl, hb2⟩; rw [H2.out])
  go_ret
  exact ⟨rfl, hb1.trans (hb2.mono hb1.size)⟩

set_option maxHeartbeats 400000 in
theorem law_DecPrints (n : Int) (w : World) :
    Calls Try.prog 3 #[.int .i64 n] w fun e w' => e = .returned (.bool true) ∧ Below w.heap.size w w' := by
  go_enter Try.func3, Try.ntmps3
  go_wp2_with first | (go_at_call 7; go_must (refine (answers02 _).mono ?_); rintro e w0 ⟨rfl, hb0⟩) | (go_at_call 8; go_must (refine (dec_Print _ _).mono ?_); rintro e w1 ⟨rfl, hb1⟩) | (go_at_call 10; go_must (refine (dec_PrintReal _ _).mono ?_); rintro e w2 ⟨rfl, hb2⟩) | (go_at_call 9; go_must (refine (ref_Print _ _).mono ?_); rintro e w3 ⟨rfl, hb3⟩) | (go_at_call 11; go_must (refine (ref_PrintReal _ _).mono ?_); rintro e w4 ⟨rfl, hb4⟩)
  go_ret
  have s0 := hb0.size
  have s1 := hb1.size
  have s2 := hb2.size
  have s3 := hb3.size
  exact ⟨rfl, hb0.trans ((hb1.mono (by omega)).trans ((hb3.mono (by omega)).trans ((hb2.mono (by omega)).trans (hb4.mono (by omega)))))⟩

theorem own : ownKnob Try.prog.godebug = none := by kernel_rfl
theorem laidOut : laidOutB Try.prog = true := by kernel_rfl

set_option maxRecDepth 100000 in
theorem lifted_DecPrints (os : Os) (started : os.Started) (H : Type) (enc : TypeId × Value → H) :
    ReturnsInHanded {} Try.checked os 3 .any (Rows.decPrintsSpec.pre6 enc Try.prog Try.f3 Rows.decPrintsRow.domain false) (Rows.decPrintsSpec.post enc Try.prog Try.f3 false true false false) := by
  refine returnsInHanded_of_change (C := Try.checked) own started (by kernel_rfl) Try.func3
    (ChangeSpec.witness6 (enc := enc) (C := Try.checked) false ⟨#[], #[.int .i64 0], []⟩ 8 (by kernel_rfl) (by kernel_rfl) (by kernel_rfl) (by kernel_rfl)) ?_
  intro W base args ds gs before hval0 hW hcnd _
  have hval : ∀ (j : Nat) t v, Try.f3.params[j]? = some t → args[j]? = some v → Value.okWide Try.prog W .any base t v := hval0
  have hW' := hW
  obtain ⟨p, q, hA0, hV, rfl, hfz, hnd⟩ := hW
  have hA : DataW.TrodAll enc Try.prog W 0 (fun _ => true) true Try.f3.params.toList args.toList ds p := hA0
  rw [Try.params3] at hA hval
  obtain ⟨v0, vs0, d0, ds0, p0, q0, hargs, rfl, rfl, h0, r0⟩ := trodAll_cons hA
  obtain ⟨rfl, rfl, rfl⟩ := trodAll_nil r0
  obtain rfl : args = #[v0] := by cases args; simp_all
  obtain ⟨rfl, rfl⟩ := trodVars_none hV
  obtain ⟨a0, rfl, rfl, rfl, w0⟩ := open_int Try.underlying3 (hval 0 3 v0 rfl rfl) h0
  clear hA0 hval0
  refine (law_DecPrints a0 W).mono fun e W' ⟨he, bel⟩ => ?_
  subst he
  exact ⟨_, rfl, _, _, _, [], _, [], hW', trodAll_mk1 (shut_bool Try.underlying4 _), (trodAll_cons_mk (shut_int Try.underlying3 w0) trodAll_mk0), rfl, bel.frame _, fun h => by cases h⟩

/-- THE STATEMENT -/
theorem DecPrints_holds : Rows.DecPrintsSaid :=
  OpenClaim.holds_of_wide 3 Try.f3 rfl rfl rfl rfl rfl rfl rfl ⟨rfl, rfl, rfl, rfl, rfl⟩ rfl rfl rfl rfl rfl (by kernel_rfl) Try.func3 (by kernel_rfl)
    (of_decide_eq_true (by kernel_rfl)) (by unfold Func.isWrapper; first | (rw [if_pos (by decide +kernel)]; kernel_rfl) | (rw [if_neg (by decide +kernel)]; exact ⟨rfl, rfl⟩))
    (fun os started H enc _ => lifted_DecPrints os started H enc)
#print axioms DecPrints_holds

end Go.Proofs.Ytnjalolknhepdaa
