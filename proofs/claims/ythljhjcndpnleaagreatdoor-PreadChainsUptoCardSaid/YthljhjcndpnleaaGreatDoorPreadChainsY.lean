/-
  The law PreadChains, in its second form: a table and a section that name one another are read to their end, none twice. Condition: the row's own (second form).
-/
import Derived.Test.YthljhjcndpnleaaGreatDoorPc5
namespace Go.Proofs.YthljhjcndpnleaaGreatDoor
open Go.RowKit
open Go.Proofs.Tryz
section
open Go.ChangeShapes Go.WideShapes Go.ChangeAt Go.RowKit
open Go.ChangeMaps (open_string shut_string)
set_option maxRecDepth 100000 in
theorem contract_PreadChains (H : Type) (enc : TypeId × Value → H) (W : World) (base : Nat) (args : Array Value) (ds gs : List (DataW H)) (before : List MemPlace)
  (hval : ∀ (j : Nat) t v, Tryz.f4.params[j]? = some t → args[j]? = some v → Value.okWide Tryz.prog W .any base t v)
  (hW : DataW.Whole enc Tryz.prog Tryz.f4.params.toList Rows.preadChainsSpec.vars false W args.toList ds gs before) (hcd : Rows.uptoBulkAll (ds ++ gs) ≤ 1048576) :
  Calls Tryz.prog 4 args W fun e W' => ∃ v, e = .returned v ∧ Rows.preadChainsSpec.post enc Tryz.prog Tryz.f4 false true false false W args v W' := by
 have hW' := hW
 obtain ⟨p, q, hA0, hV, rfl, hfz, hnd⟩ := hW
 have hA : DataW.TrodAll enc Tryz.prog W 0 (fun _ => true) true Tryz.f4.params.toList args.toList ds p := hA0
 rw [Tryz.params4] at hA hval
 obtain ⟨v0, vs0, d0, ds0, p0, q0, hargs0, rfl, rfl, h0, r0⟩ := trodAll_cons hA
 obtain ⟨v1, vs1, d1, ds1, p1, q1, hargs1, rfl, rfl, h1, r1⟩ := trodAll_cons r0
 obtain ⟨v2, vs2, d2, ds2, p2, q2, hargs2, rfl, rfl, h2, r2⟩ := trodAll_cons r1
 obtain ⟨rfl, rfl, rfl⟩ := trodAll_nil r2
 obtain rfl : args = #[v0, v1, v2] := by cases args; simp_all
 obtain ⟨rfl, rfl⟩ := trodVars_none hV
 simp only [List.append_nil, Rows.uptoBulkAll] at hcd
 obtain ⟨s0, rfl, rfl, rfl, hm0⟩ := open_int underlying5 (hval 0 5 v0 rfl rfl) h0
 obtain ⟨s1, rfl, rfl, rfl⟩ := open_bool underlying4 (hval 1 4 v1 rfl rfl) h1
 obtain ⟨cs2, rfl, -⟩ := okWide_struct underlying28 (hval 2 28 v2 rfl rfl)
 have hh2 := h2
 obtain ⟨fu2, ft2⟩ := hh2
 obtain ⟨y2, o2, ec2, hr2, hb2⟩ := open_pobj fu2 ft2
 obtain rfl : cs2 = (acV y2).toArray := by rw [← ec2]; rfl
 have hb2 : bkO o2 ≤ Rows.uptoBulk d2 := hb2
 clear hA0
 simp only [List.append_nil] at hW'
 refine (law_PreadChains s0 s1 y2 o2 W hm0 hr2 (Nat.le_trans hb2 oO)).mono fun e W' ⟨he, bel⟩ => ?_
 subst he
 exact ⟨_, rfl, _, _, _, [], _, [], hW', trodAll_mk1 (shut_bool underlying4 _), (trodAll_cons_mk (shut_int underlying5 hm0) (trodAll_cons_mk (shut_bool underlying4 _) (trodAll_cons_mk (trod_keep laidOut kR kR h2 bel (fun x hx => hW'.lt x (by first | exact hx | (simp only [List.mem_append]; simp_all)))) trodAll_mk0))), rfl, bel.frame _, fun h => by cases h⟩
theorem laid_met_PreadChains (os : Os) : laidMet Tryz.prog Rows.preadChainsUptoRow.laid ((laidWorld os).forCall (fun _ _ => 0) ⟨#[], #[.int .u8 0, .bool false, .agg #[.int .i64 0, .int .i64 0, .string .empty, .slice none 0 0, .slice none 0 0, .slice none 0 0]], []⟩).memory :=
 laidMet_of_run' 8 kR kR
theorem reads_PreadChains (os : Os) {H : Type} (enc : TypeId × Value → H) : ∃ places, DataW.whole enc Tryz.prog ((laidWorld os).forCall (fun _ _ => 0) ⟨#[], #[.int .u8 0, .bool false, .agg #[.int .i64 0, .int .i64 0, .string .empty, .slice none 0 0, .slice none 0 0, .slice none 0 0]], []⟩).memory Tryz.f4.params.toList Rows.preadChainsSpec.vars false #[Value.int .u8 0, .bool false, .agg #[.int .i64 0, .int .i64 0, .string .empty, .slice none 0 0, .slice none 0 0, .slice none 0 0]].toList 8 = some ([.lit (.int .u8 0), .lit (.bool false), .agg [.lit (.int .i64 0), .lit (.int .i64 0), .lit (.string []), .nil, .nil, .nil]], [], places) :=
 ⟨[], by kernel_rfl⟩
set_option maxRecDepth 100000 in
theorem lifted_PreadChains (os : Os) (started : os.Started) (H : Type) (enc : TypeId × Value → H) (F : Stop.Interp) :
    ReturnsInHanded {} Tryz.checked os 4 .any ((Rows.OpenSpec.upto Rows.preadChainsSpec).preRow enc Tryz.prog Tryz.f4 Rows.preadChainsUptoRow.domain false Rows.preadChainsUptoRow.laid) (((Rows.OpenSpec.upto Rows.preadChainsSpec).at F).post enc Tryz.prog Tryz.f4 false true false false) := by
  obtain ⟨places, hx⟩ := reads_PreadChains os enc
  refine returnsInHanded_of_row (C := Tryz.checked) (s := Rows.OpenSpec.upto Rows.preadChainsSpec) own started kR func4
    (witness_row_at (enc := enc) (C := Tryz.checked) false (laidWorld os) #[.int .u8 0, .bool false, .agg #[.int .i64 0, .int .i64 0, .string .empty, .slice none 0 0, .slice none 0 0, .slice none 0 0]] rfl kR kR kR
      (OpenSpec.preRow_of_cond 8 hx kR (fun k hk => by cases hk; rfl) kR (laid_met_PreadChains os))) ?_
  intro W base args ds gs before hval hW _ hcd _ hL _ _
  exact contract_PreadChains H enc W base args ds gs before hval hW (dT (hcd _ rfl))
theorem said_PreadChains : Rows.PreadChainsUptoSaid :=
  OpenClaim.holds_of_cond 4 Tryz.f4 rfl rfl rfl rfl rfl rfl rfl ⟨rfl, rfl, rfl, rfl, rfl⟩ rfl rfl rfl rfl rfl kR func4 kR
    (dT kR) (by unfold Func.isWrapper; first | (rw [if_pos (by decide +kernel)]; kernel_rfl) | (rw [if_neg (by decide +kernel)]; exact ⟨rfl, rfl⟩))
    (fun os started H enc _ F => by rw [OpenClaim.pre_eq_preRow]; exact lifted_PreadChains os started H enc F)
theorem plain_PreadChains (f : FuncId) (fn : Func) (hf : Tryz.pinned.checked.prog.funcNamed "mezzotint/mezzotintlaw23.PreadChains" = some f) (hfn : Tryz.pinned.checked.prog.funcs[f]? = some fn) :
  true = Tryz.pinned.checked.prog.looks [] ∧ ∀ (j : Nat) t, fn.params[j]? = some t → Tryz.pinned.checked.prog.wantsStandIn t = false := by
 obtain rfl : f = 4 := Option.some.inj ((show Tryz.prog.funcNamed "mezzotint/mezzotintlaw23.PreadChains" = some 4 by kernel_rfl).symm.trans hf) |>.symm
 obtain rfl : fn = Tryz.f4 := (Option.some.inj (func4.symm.trans hfn)).symm
 refine ⟨by kernel_rfl, fun j t ht => ?_⟩
 rw [Tryz.params4] at ht
 have hmem := Array.mem_of_getElem? ht
 simp only [List.mem_toArray, List.mem_cons, List.not_mem_nil, or_false] at hmem
 rcases hmem with rfl | rfl | rfl
 ·
  exact (show Tryz.prog.wantsStandIn 5 = false by kernel_rfl)
 ·
  exact (show Tryz.prog.wantsStandIn 4 = false by kernel_rfl)
 ·
  exact (show Tryz.prog.wantsStandIn 28 = false by kernel_rfl)
/-- THE CARD -/
theorem PreadChains_holds : Rows.PreadChainsUptoCardSaid :=
 Claim7.holds_tied_plain_at .later [] _ _ _ _ said_PreadChains (fun _ h => by cases h) kR (fun _ h => by cases h) preadChainsUpto_row_tie rfl ⟨rfl, rfl⟩ kR rfl plain_PreadChains kR
#print axioms PreadChains_holds
end
end Go.Proofs.YthljhjcndpnleaaGreatDoor
