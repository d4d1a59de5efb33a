/-
  The law DecParses: for every string dec.Parse returns what the reference returns. No condition beyond the row's own.
-/
import Derived.Test.YteaohajihhpnmaaDoorDecW
import Derived.Test.YteaohajihhpnmaaDoorDecC
import Derived.Test.YteaohajihhpnmaaDoorFrame
namespace Go.Proofs.YteaohajihhpnmaaDoor
open Go.ChangeShapes Go.WideShapes Go.ChangeAt Go.RowKit
open Go.ChangeMaps (open_string shut_string)

theorem digitsL_zero : digitsL 0 = [48] := by rw [digitsL_lt 0 (by omega)]; rfl
theorem digitsL_one : digitsL 1 = [49] := by rw [digitsL_lt 1 (by omega)]; rfl
theorem print_half : printL (norm 32768) = [48, 46, 53] := by
  have h1 : norm 32768 = 32768 := by rw [norm, fitsB_yes (by omega) (by omega)]; rfl
  have h2 : restL 32768 = [53] := by
    show fracL 32768 = _
    rw [fracL_step _ (by omega) (by omega), show 32768 * 10 % 65536 = 0 from rfl, fracL_zero]; rfl
  have h3 : wholeL 32768 = [48] := digitsL_zero
  rw [h1, printL, h2, h3]; rfl
theorem real_one : realL (norm 65536) = [49, 46, 48] := by
  have h1 : norm 65536 = 65536 := by rw [norm, fitsB_yes (by omega) (by omega)]; rfl
  have h2 : restL 65536 = [] := by rw [restL_iff]; rfl
  have h3 : wholeL 65536 = [49] := digitsL_one
  rw [h1, realL, h2, h3]; rfl

set_option maxHeartbeats 400000 in
theorem answers02 (w : World) :
    Calls Tryd.prog 14 #[] w fun e w' => e = .returned (.bool true) ∧ Below w.heap.size w w' := by
  have h1 := print_half
  have h2 := real_one
  have H1 := hid h1; have H2 := hid h2; clear h1 h2
  have hT := bs_toList
  go_enter Tryd.func14, Tryd.ntmps14
  go_wp2_with first | (go_at_call 20; go_must (refine (dec_Print _ _).mono ?_); rintro e w1 ⟨rfl, hb1⟩; rw [H1.out]) | (go_at_call 21; go_must (refine (dec_PrintReal _ _).mono ?_); rintro e w2 ⟨rfl, hb2⟩; rw [H2.out])
  go_ret
  exact ⟨rfl, hb1.trans (hb2.mono hb1.size)⟩

theorem bs_self (s : ByteArray) : bs s.data.toList = s := by
  apply ByteArray.ext
  simp [bs]

set_option maxHeartbeats 1000000 in
theorem law_DecParses (s : ByteArray) (w : World) (hm : s.size ≤ maxLen) :
    Calls Tryd.prog 3 #[.string s] w fun e w' => e = .returned (.bool true) ∧ Below w.heap.size w w' := by
  unfold maxLen at hm
  rw [← bs_self s]
  have hl : s.data.toList.length = s.size := by rw [Array.length_toList]; rfl
  generalize s.data.toList = l at *
  have hs := bs_size l
  by_cases h1 : 3000 < l.length
  · go_enter Tryd.func3, Tryd.ntmps3
    go_wp2_with (go_at_call 14; go_must (refine (answers02 _).mono ?_); rintro e w0 ⟨rfl, hb0⟩)
    go_ret
    exact ⟨rfl, hb0⟩
  · by_cases h2 : 64 < l.length
    · go_enter Tryd.func3, Tryd.ntmps3
      go_wp2_with first | (go_at_call 14; go_must (refine (answers02 _).mono ?_); rintro e w0 ⟨rfl, hb0⟩) | (go_at_call 15; go_must (refine (dec_Parse_long _ _ h2).mono ?_); rintro e w1 ⟨rfl, rfl⟩) | (go_at_call 16; go_must (refine (ref_Parse_long _ _ h2).mono ?_); rintro e w2 ⟨rfl, rfl⟩)
      go_ret
      exact ⟨rfl, hb0⟩
    · go_enter Tryd.func3, Tryd.ntmps3
      go_wp2_with first | (go_at_call 14; go_must (refine (answers02 _).mono ?_); rintro e w0 ⟨rfl, hb0⟩) | (go_at_call 15; go_must (refine (dec_Parse_short _ _ (by omega)).mono ?_); rintro e w1 ⟨rfl, hb1⟩) | (go_at_call 16; go_must (refine (ref_Parse_short _ _ (by omega)).mono ?_); rintro e w2 ⟨rfl, hb2⟩)
      go_ret
      exact ⟨rfl, btr (btr hb1 hb2) hb0⟩

set_option maxRecDepth 100000 in
theorem contract_DecParses (H : Type) (enc : TypeId × Value → H) (W : World) (base : Nat) (args : Array Value) (ds gs : List (DataW H)) (before : List MemPlace)
    (hval : ∀ (j : Nat) t v, Tryd.f3.params[j]? = some t → args[j]? = some v → Value.okWide Tryd.prog W .any base t v)
    (hW : DataW.Whole enc Tryd.prog Tryd.f3.params.toList Rows.decParsesSpec.vars false W args.toList ds gs before) :
    Calls Tryd.prog 3 args W fun e W' => ∃ v, e = .returned v ∧ Rows.decParsesSpec.post enc Tryd.prog Tryd.f3 false true false false W args v W' := by
  have hW' := hW
  obtain ⟨p, q, hA0, hV, rfl, hfz, hnd⟩ := hW
  have hA : DataW.TrodAll enc Tryd.prog W 0 (fun _ => true) true Tryd.f3.params.toList args.toList ds p := hA0
  rw [Tryd.params3] at hA hval
  obtain ⟨v0, vs0, d0, ds0, p0, q0, hargs, rfl, rfl, h0, r0⟩ := trodAll_cons hA
  obtain ⟨rfl, rfl, rfl⟩ := trodAll_nil r0
  obtain rfl : args = #[v0] := by cases args; simp_all
  obtain ⟨rfl, rfl⟩ := trodVars_none hV
  obtain ⟨s, rfl, rfl, rfl, hmax⟩ := open_string Tryd.underlying9 (hval 0 9 v0 rfl rfl) h0
  clear hA0
  simp only [List.append_nil] at hW'
  refine (law_DecParses s W hmax).mono fun e W' ⟨he, bel⟩ => ?_
  subst he
  exact ⟨_, rfl, _, _, _, [], _, [], hW', trodAll_mk1 (shut_bool Tryd.underlying4 _), (trodAll_cons_mk (shut_string Tryd.underlying9 hmax) trodAll_mk0), rfl, bel.frame _, fun h => by cases h⟩

theorem laid_met_DecParses (os : Os) : laidMet Tryd.prog Rows.decParsesRow.laid ((laidWorld os).forCall (fun _ _ => 0) ⟨#[], #[.string .empty], []⟩).memory :=
  laidMet_of_run' 8 (by kernel_rfl) (by kernel_rfl)
theorem reads_DecParses (os : Os) {H : Type} (enc : TypeId × Value → H) : ∃ places, DataW.whole enc Tryd.prog ((laidWorld os).forCall (fun _ _ => 0) ⟨#[], #[.string .empty], []⟩).memory Tryd.f3.params.toList Rows.decParsesSpec.vars false #[Value.string .empty].toList 8 = some ([.lit (.string [])], [], places) :=
  ⟨[], by kernel_rfl⟩

set_option maxRecDepth 100000 in
theorem lifted_DecParses (os : Os) (started : os.Started) (H : Type) (enc : TypeId × Value → H) (F : Stop.Interp) :
    ReturnsInHanded {} Tryd.checked os 3 .any ((OpenSpec.ofChange Rows.decParsesSpec).preRow enc Tryd.prog Tryd.f3 Rows.decParsesRow.domain false Rows.decParsesRow.laid) (((OpenSpec.ofChange Rows.decParsesSpec).at F).post enc Tryd.prog Tryd.f3 false true false false) := by
  obtain ⟨places, hx⟩ := reads_DecParses os enc
  refine returnsInHanded_of_row (C := Tryd.checked) (s := OpenSpec.ofChange Rows.decParsesSpec) own started (by kernel_rfl) Tryd.func3
    (witness_row_at (enc := enc) (C := Tryd.checked) false (laidWorld os) #[.string .empty] rfl (by kernel_rfl) (by kernel_rfl) (by kernel_rfl)
      (OpenSpec.preRow_of_cond 8 hx (by kernel_rfl) (fun k hk => by cases hk) (by kernel_rfl) (laid_met_DecParses os))) ?_
  intro W base args ds gs before hval hW _ _ _ hL _ _
  exact contract_DecParses H enc W base args ds gs before hval hW

theorem said_DecParses : Rows.DecParsesSaid :=
  OpenClaim.holds_of_cond 3 Tryd.f3 rfl rfl rfl rfl rfl rfl rfl ⟨rfl, rfl, rfl, rfl, rfl⟩ rfl rfl rfl rfl rfl (by kernel_rfl) Tryd.func3 (by kernel_rfl)
    (of_decide_eq_true (by kernel_rfl)) (by unfold Func.isWrapper; first | (rw [if_pos (by decide +kernel)]; kernel_rfl) | (rw [if_neg (by decide +kernel)]; exact ⟨rfl, rfl⟩))
    (fun os started H enc _ F => by rw [OpenClaim.pre_eq_preRow]; exact lifted_DecParses os started H enc F)

theorem plain_DecParses (f : FuncId) (fn : Func) (hf : Tryd.pinned.checked.prog.funcNamed "mezzotint/mezzotintlaw02.DecParses" = some f) (hfn : Tryd.pinned.checked.prog.funcs[f]? = some fn) :
    true = Tryd.pinned.checked.prog.looks [] ∧ ∀ (j : Nat) t, fn.params[j]? = some t → Tryd.pinned.checked.prog.wantsStandIn t = false := by
  obtain rfl : f = 3 := Option.some.inj ((show Tryd.prog.funcNamed "mezzotint/mezzotintlaw02.DecParses" = some 3 by kernel_rfl).symm.trans hf) |>.symm
  obtain rfl : fn = Tryd.f3 := (Option.some.inj (Tryd.func3.symm.trans hfn)).symm
  refine ⟨by kernel_rfl, fun j t ht => ?_⟩
  rw [Tryd.params3] at ht
  obtain rfl : t = 9 := by simpa using Array.mem_of_getElem? ht
  exact (show Tryd.prog.wantsStandIn 9 = false by kernel_rfl)

/-- THE CARD -/
theorem DecParses_holds : Rows.DecParsesCardSaid :=
  Claim7.holds_tied_plain_at .later [] _ _ _ _ said_DecParses (fun _ h => by cases h) (by kernel_rfl) (fun _ h => by cases h) decParses_row_tie rfl ⟨rfl, rfl⟩ (by kernel_rfl) rfl plain_DecParses (by kernel_rfl)
#print axioms DecParses_holds

end Go.Proofs.YteaohajihhpnmaaDoor
