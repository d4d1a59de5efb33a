/-
  The law StackRolls: for every slice of objects, every n and j it returns true. No condition.
-/
import Derived.Test.YtnjalolknhepdaaStkF
import Derived.WalkKit
import Derived.Test.YtnjalolknhepdaaRows
namespace Go.Proofs.Ytnjalolknhepdaa
open Go.ChangeShapes Go.WideShapes Go.ChangeAt Go.RowKit

theorem stkOwn : ownKnob Try.prog.godebug = none := by kernel_rfl
theorem stkLaid : laidOutB Try.prog = true := by kernel_rfl
theorem law_StackRolls (p : Option Addr) (l : List ObjV) (c : Nat) (n j : Int) (w : World) (hrow : RowM objL w p l) (hnil : l = [] → c = 0 ∨ p ≠ none) (hn : 0 ≤ n ∧ n ≤ 255) (hj : -2147483648 ≤ j ∧ j ≤ 2147483647) :
    Calls Try.prog 4 #[.slice p l.length c, .int .u8 n, .int .i32 j] w fun e w' => e = .returned (.bool true) ∧ Below w.heap.size w w' := by
  obtain ⟨n, rfl⟩ := Int.eq_ofNat_of_zero_le hn.1
  rcases Nat.lt_or_ge 200 l.length with h | h
  · exact law_Rolls_long p l c n j w h
  · exact law_Rolls_short p l c n j w h hrow hnil (by omega) hj

set_option maxRecDepth 100000 in
theorem lifted_StackRolls (os : Os) (started : os.Started) (H : Type) (enc : TypeId × Value → H) :
    ReturnsInHanded {} Try.checked os 4 .any (Rows.stackRollsSpec.pre6 enc Try.prog Try.f4 Rows.stackRollsRow.domain false) (Rows.stackRollsSpec.post enc Try.prog Try.f4 false true false false) := by
  refine returnsInHanded_of_change (C := Try.checked) stkOwn started (by kernel_rfl) Try.func4
    (ChangeSpec.witness6 (enc := enc) (C := Try.checked) false ⟨#[], #[.slice none 0 0, .int .u8 0, .int .i32 0], []⟩ 8 (by kernel_rfl) (by kernel_rfl) (by kernel_rfl) (by kernel_rfl)) ?_
  intro W base args ds gs before hval0 hW hcnd _
  have hval : ∀ (j : Nat) t v, Try.f4.params[j]? = some t → args[j]? = some v → Value.okWide Try.prog W .any base t v := hval0
  have hW' := hW
  obtain ⟨p, q, hA0, hV, rfl, hfz, hnd⟩ := hW
  have hA : DataW.TrodAll enc Try.prog W 0 (fun _ => true) true Try.f4.params.toList args.toList ds p := hA0
  rw [Try.params4] at hA hval
  obtain ⟨v0, vs0, d0, ds0, p0, q0, hargs0, rfl, rfl, h0, r0⟩ := trodAll_cons hA
  obtain ⟨v1, vs1, d1, ds1, p1, q1, hargs1, rfl, rfl, h1, r1⟩ := trodAll_cons r0
  obtain ⟨v2, vs2, d2, ds2, p2, q2, hargs2, rfl, rfl, h2, r2⟩ := trodAll_cons r1
  obtain ⟨rfl, rfl, rfl⟩ := trodAll_nil r2
  obtain rfl : args = #[v0, v1, v2] := by cases args; simp_all
  obtain ⟨rfl, rfl⟩ := trodVars_none hV
  obtain ⟨s0, l0, c0, rfl, hb0, hc0, hn0, hm0⟩ := open_objs (hval 0 25 v0 rfl rfl) h0
  obtain ⟨a1, rfl, rfl, rfl, w1⟩ := open_int Try.underlying5 (hval 1 5 v1 rfl rfl) h1
  obtain ⟨a2, rfl, rfl, rfl, w2⟩ := open_int Try.underlying21 (hval 2 21 v2 rfl rfl) h2
  clear hA0 hval0
  simp only [List.append_nil] at hW'
  have e1 : 0 ≤ a1 ∧ a1 ≤ 255 := by simp only [Lit.wf, Bool.and_eq_true, decide_eq_true_eq] at w1; exact w1
  have e2 : -2147483648 ≤ a2 ∧ a2 ≤ 2147483647 := by simp only [Lit.wf, Bool.and_eq_true, decide_eq_true_eq] at w2; exact w2
  refine (law_StackRolls s0 l0 c0 a1 a2 W hb0 hn0 e1 e2).mono fun e W' ⟨he, bel⟩ => ?_
  subst he
  exact ⟨_, rfl, _, _, _, [], _, [], hW', trodAll_mk1 (shut_bool Try.underlying4 _), (trodAll_cons_mk (trod_keep stkLaid (by kernel_rfl) (by kernel_rfl) h0 bel (fun x hx => hW'.lt x (by first | exact hx | (simp only [List.mem_append]; simp_all)))) (trodAll_cons_mk (shut_int Try.underlying5 w1) (trodAll_cons_mk (shut_int Try.underlying21 w2) trodAll_mk0))), rfl, bel.frame _, fun h => by cases h⟩

/-- THE STATEMENT -/
theorem StackRolls_holds : Rows.StackRollsSaid :=
  OpenClaim.holds_of_wide 4 Try.f4 rfl rfl rfl rfl rfl rfl rfl ⟨rfl, rfl, rfl, rfl, rfl⟩ rfl rfl rfl rfl rfl (by kernel_rfl) Try.func4 (by kernel_rfl)
    (of_decide_eq_true (by kernel_rfl)) (by unfold Func.isWrapper; first | (rw [if_pos (by decide +kernel)]; kernel_rfl) | (rw [if_neg (by decide +kernel)]; exact ⟨rfl, rfl⟩))
    (fun os started H enc _ => lifted_StackRolls os started H enc)
#print axioms StackRolls_holds

end Go.Proofs.Ytnjalolknhepdaa
