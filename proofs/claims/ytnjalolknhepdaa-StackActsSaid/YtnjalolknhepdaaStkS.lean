/-
  The law StackActs: for every number and every slice of calls it returns true. No condition.
-/
import Derived.Test.YtnjalolknhepdaaStkR
import Derived.WalkKit
import Derived.Test.YtnjalolknhepdaaRows
namespace Go.Proofs.Ytnjalolknhepdaa
open Go.ChangeShapes Go.WideShapes Go.ChangeAt Go.RowKit

theorem stkOwn3 : ownKnob Try.prog.godebug = none := by kernel_rfl
theorem stkLaid3 : laidOutB Try.prog = true := by kernel_rfl
theorem open_acts {H : Type} {enc : TypeId × Value → H} {w : World} {base : Nat} {held : Bool} {r : Reach} {b0 : Nat} {v : Value} {d : DataW H} {ps : List MemPlace}
    (hval : Value.okWide Try.prog w r b0 34 v) (hd : DataW.Trod enc Try.prog w base (fun _ => true) held 34 v d ps) :
    ∃ p l c, v = .slice p (l : List ActV).length c ∧ RowM actL w p l ∧ ∀ y ∈ l, ActOk w y := by
  obtain ⟨a0, len, cap, rfl⟩ := okWide_slice Try.underlying34 hval
  obtain ⟨fuel, hf⟩ := hd
  obtain ⟨p, l, c, e, h1, -, h3, -⟩ := open_rowM (L := actL) (Ok := fun o => ActOk w o) Try.underlying34 cells37 (fun h => open_Act h) hf
  simp only [Value.cells, List.cons.injEq, and_true] at e
  exact ⟨p, l, c, e, h1, h3⟩

set_option maxRecDepth 100000 in
theorem lifted_StackActs (os : Os) (started : os.Started) (H : Type) (enc : TypeId × Value → H) :
    ReturnsInHanded {} Try.checked os 5 .any (Rows.stackActsSpec.pre6 enc Try.prog Try.f5 Rows.stackActsRow.domain false) (Rows.stackActsSpec.post enc Try.prog Try.f5 false true false false) := by
  refine returnsInHanded_of_change (C := Try.checked) stkOwn3 started (by kernel_rfl) Try.func5
    (ChangeSpec.witness6 (enc := enc) (C := Try.checked) false ⟨#[], #[.int .i64 0, .slice none 0 0], []⟩ 8 (by kernel_rfl) (by kernel_rfl) (by kernel_rfl) (by kernel_rfl)) ?_
  intro W base args ds gs before hval0 hW hcnd _
  have hval : ∀ (j : Nat) t v, Try.f5.params[j]? = some t → args[j]? = some v → Value.okWide Try.prog W .any base t v := hval0
  have hW' := hW
  obtain ⟨p, q, hA0, hV, rfl, hfz, hnd⟩ := hW
  have hA : DataW.TrodAll enc Try.prog W 0 (fun _ => true) true Try.f5.params.toList args.toList ds p := hA0
  rw [Try.params5] at hA hval
  obtain ⟨v0, vs0, d0, ds0, p0, q0, hargs0, rfl, rfl, h0, r0⟩ := trodAll_cons hA
  obtain ⟨v1, vs1, d1, ds1, p1, q1, hargs1, rfl, rfl, h1, r1⟩ := trodAll_cons r0
  obtain ⟨rfl, rfl, rfl⟩ := trodAll_nil r1
  obtain rfl : args = #[v0, v1] := by cases args; simp_all
  obtain ⟨rfl, rfl⟩ := trodVars_none hV
  obtain ⟨a0, rfl, rfl, rfl, w0⟩ := open_int Try.underlying3 (hval 0 3 v0 rfl rfl) h0
  obtain ⟨s1, l1, c1, rfl, hb1, hk1⟩ := open_acts (hval 1 34 v1 rfl rfl) h1
  clear hA0 hval0
  simp only [List.append_nil] at hW'
  refine (law_Acts a0 s1 l1 c1 W (wf64 w0) hb1 hk1).mono fun e W' ⟨he, bel⟩ => ?_
  subst he
  exact ⟨_, rfl, _, _, _, [], _, [], hW', trodAll_mk1 (shut_bool Try.underlying4 _), (trodAll_cons_mk (shut_int Try.underlying3 w0) (trodAll_cons_mk (trod_keep stkLaid3 (by kernel_rfl) (by kernel_rfl) h1 bel (fun x hx => hW'.lt x (by first | exact hx | (simp only [List.mem_append]; simp_all)))) trodAll_mk0)), rfl, bel.frame _, fun h => by cases h⟩

/-- THE STATEMENT -/
theorem StackActs_holds : Rows.StackActsSaid :=
  OpenClaim.holds_of_wide 5 Try.f5 rfl rfl rfl rfl rfl rfl rfl ⟨rfl, rfl, rfl, rfl, rfl⟩ rfl rfl rfl rfl rfl (by kernel_rfl) Try.func5 (by kernel_rfl)
    (of_decide_eq_true (by kernel_rfl)) (by unfold Func.isWrapper; first | (rw [if_pos (by decide +kernel)]; kernel_rfl) | (rw [if_neg (by decide +kernel)]; exact ⟨rfl, rfl⟩))
    (fun os started H enc _ => lifted_StackActs os started H enc)
#print axioms StackActs_holds

end Go.Proofs.Ytnjalolknhepdaa
