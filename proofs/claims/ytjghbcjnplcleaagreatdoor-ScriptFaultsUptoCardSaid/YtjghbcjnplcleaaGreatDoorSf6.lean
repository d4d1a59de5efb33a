/-
  What the claim leans on, part 6: pruned and joined by my own tool out of the texts that stand in wip/ as templates.
-/
import Derived.Test.YtjghbcjnplcleaaGreatDoorSf5
namespace Go.Proofs.YtjghbcjnplcleaaGreatDoor
open Go.RowKit
open Go.Proofs.Tryz
section
open Go.ChangeShapes Go.WideShapes Go.ChangeAt Go.RowKit
open Go.ChangeMaps (open_string shut_string)
set_option maxRecDepth 100000 in
theorem contract_ScriptFaults (H : Type) (enc : TypeId × Value → H) (W : World) (base : Nat) (args : Array Value) (ds gs : List (DataW H)) (before : List MemPlace)
  (hval : ∀ (j : Nat) t v, Tryz.f9.params[j]? = some t → args[j]? = some v → Value.okWide Tryz.prog W .any base t v)
  (hW : DataW.Whole enc Tryz.prog Tryz.f9.params.toList Rows.scriptFaultsSpec.vars false W args.toList ds gs before) (hcd : Rows.uptoBulkAll (ds ++ gs) ≤ 1048576) (hL : laidMetH Tryz.prog Rows.scriptFaultsUptoRow.laid W) (hS : W.ShapedOpen Tryz.prog) :
  Calls Tryz.prog 9 args W fun e W' => ∃ v, e = .returned v ∧ Rows.scriptFaultsSpec.post enc Tryz.prog Tryz.f9 false true false false W args v W' := by
 have hW' := hW
 obtain ⟨p, q, hA0, hV, rfl, hfz, hnd⟩ := hW
 have hA : DataW.TrodAll enc Tryz.prog W 0 (fun _ => true) true Tryz.f9.params.toList args.toList ds p := hA0
 rw [Tryz.params9] at hA hval
 obtain ⟨v0, vs0, d0, ds0, p0, q0, hargs0, rfl, rfl, h0, r0⟩ := trodAll_cons hA
 obtain ⟨v1, vs1, d1, ds1, p1, q1, hargs1, rfl, rfl, h1, r1⟩ := trodAll_cons r0
 obtain ⟨v2, vs2, d2, ds2, p2, q2, hargs2, rfl, rfl, h2, r2⟩ := trodAll_cons r1
 obtain ⟨v3, vs3, d3, ds3, p3, q3, hargs3, rfl, rfl, h3, r3⟩ := trodAll_cons r2
 obtain ⟨rfl, rfl, rfl⟩ := trodAll_nil r3
 obtain rfl : args = #[v0, v1, v2, v3] := by cases args; simp_all
 obtain ⟨rfl, rfl⟩ := trodVars_none hV
 simp only [List.append_nil, Rows.uptoBulkAll] at hcd
 obtain ⟨a0, n0, k0, rfl⟩ := okWide_slice underlying47 (hval 0 47 v0 rfl rfl)
 have hh0 := h0
 obtain ⟨fu0, ft0⟩ := hh0
 obtain ⟨s0, l0, c0, ec0, hb0, hs0, hk0, hz0, hzs0⟩ := openS_rowM (L := pageL) (Ok := fun o => PageOk W o) (S := PageZ) (fun h hn => h.mono hn) underlying47 cells76 (fun h => openS_Page h) ft0
 simp only [Value.cells, List.cons.injEq, and_true, Value.slice.injEq] at ec0
 obtain ⟨rfl, rfl, rfl⟩ := ec0
 obtain ⟨s1, rfl, rfl, rfl, hm1⟩ := open_int underlying5 (hval 1 5 v1 rfl rfl) h1
 obtain ⟨s2, rfl, rfl, rfl, hm2⟩ := open_int underlying5 (hval 2 5 v2 rfl rfl) h2
 obtain ⟨s3, rfl, rfl, rfl, hm3⟩ := open_string underlying9 (hval 3 9 v3 rfl rfl) h3
 clear hA0
 simp only [List.append_nil] at hW'
 refine (law_ScriptFaults a0 l0 k0 s1 s2 s3 W (env_of hL hS) hb0 (pagesS_of hz0 hzs0 (show Rows.uptoBulk d0 ≤ 1048576 by omega)) hk0 hm1 hm2 hm3).mono fun e W' ⟨he, bel⟩ => ?_
 subst he
 exact ⟨_, rfl, _, _, _, [], _, [], hW', trodAll_mk1 (shut_bool underlying4 _), (trodAll_cons_mk (trod_keep laidOut kR kR h0 bel (fun x hx => hW'.lt x (by first | exact hx | (simp only [List.mem_append]; simp_all)))) (trodAll_cons_mk (shut_int underlying5 hm1) (trodAll_cons_mk (shut_int underlying5 hm2) (trodAll_cons_mk (shut_string underlying9 hm3) trodAll_mk0)))), rfl, bel.frame _, fun h => by cases h⟩
theorem laid_met_ScriptFaults (os : Os) : laidMet Tryz.prog Rows.scriptFaultsUptoRow.laid ((laidWorld os).forCall (fun _ _ => 0) ⟨#[], #[.slice none 0 0, .int .u8 0, .int .u8 0, .string .empty], []⟩).memory :=
 laidMet_of_run' 8 kR kR
theorem reads_ScriptFaults (os : Os) {H : Type} (enc : TypeId × Value → H) : ∃ places, DataW.whole enc Tryz.prog ((laidWorld os).forCall (fun _ _ => 0) ⟨#[], #[.slice none 0 0, .int .u8 0, .int .u8 0, .string .empty], []⟩).memory Tryz.f9.params.toList Rows.scriptFaultsSpec.vars false #[Value.slice none 0 0, .int .u8 0, .int .u8 0, .string .empty].toList 8 = some ([.nil, .lit (.int .u8 0), .lit (.int .u8 0), .lit (.string [])], [], places) :=
 ⟨[], by kernel_rfl⟩
set_option maxRecDepth 100000 in
theorem lifted_ScriptFaults (os : Os) (started : os.Started) (H : Type) (enc : TypeId × Value → H) (F : Stop.Interp) :
    ReturnsInHanded {} Tryz.checked os 9 .any ((Rows.OpenSpec.upto Rows.scriptFaultsSpec).preRow enc Tryz.prog Tryz.f9 Rows.scriptFaultsUptoRow.domain false Rows.scriptFaultsUptoRow.laid) (((Rows.OpenSpec.upto Rows.scriptFaultsSpec).at F).post enc Tryz.prog Tryz.f9 false true false false) := by
  obtain ⟨places, hx⟩ := reads_ScriptFaults os enc
  refine returnsInHanded_of_row (C := Tryz.checked) (s := Rows.OpenSpec.upto Rows.scriptFaultsSpec) own started kR func9
    (witness_row_at (enc := enc) (C := Tryz.checked) false (laidWorld os) #[.slice none 0 0, .int .u8 0, .int .u8 0, .string .empty] rfl kR kR kR
      (OpenSpec.preRow_of_cond 8 hx kR (fun k hk => by cases hk; rfl) kR (laid_met_ScriptFaults os))) ?_
  intro W base args ds gs before hval hW _ hcd _ hL hS _
  exact contract_ScriptFaults H enc W base args ds gs before hval hW (dT (hcd _ rfl)) hL hS
end
end Go.Proofs.YtjghbcjnplcleaaGreatDoor
