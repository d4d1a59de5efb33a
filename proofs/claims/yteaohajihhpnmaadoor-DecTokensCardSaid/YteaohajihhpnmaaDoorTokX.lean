/-
  The law DecTokens: for every string dec.Token returns what the reference returns. No condition beyond the row's own.
-/
import Derived.Test.YteaohajihhpnmaaDoorTokW
import Derived.Test.YteaohajihhpnmaaDoorDecX
namespace Go.Proofs.YteaohajihhpnmaaDoor
open Go.ChangeShapes Go.WideShapes Go.ChangeAt Go.RowKit
open Go.ChangeMaps (open_string shut_string)

theorem ref_Token (l : List UInt8) (w : World) :
    Calls Tryd.prog 18 #[.string (bs l)] w fun e w' => e = .returned (tokenL l).val ∧ Below w.heap.size w w' := by
  by_cases hl : 64 < l.length
  · rw [tokenL_long l hl]; exact ref_Token_long l w hl
  · cases hR : radixOk l with
    | false => rw [tokenL_plain l (by omega) hR]; exact ref_Token_plain l w (by omega) hR
    | true =>
      obtain ⟨A, B, hs, hc, hA0, hA2, hdig, hB⟩ := radixOk_split l hR
      rw [tokenL_radix l A B (by omega) hR hc]
      subst hs
      match A, hA0, hA2, hdig, hl with
      | [x], _, _, hdig, hl => exact ref_Token_radix1 x B w (by simp at hl; omega) hB (hdig x (by simp))
      | [x, y], _, _, hdig, hl => exact ref_Token_radix2 x y B w (by simp at hl; omega) hB (hdig x (by simp)) (hdig y (by simp))

theorem law_DecTokens (s : ByteArray) (w : World) (_hm : s.size ≤ maxLen) :
    Calls Tryd.prog 4 #[.string s] w fun e w' => e = .returned (.bool true) ∧ Below w.heap.size w w' := by
  rw [← bs_self s]
  have hl : s.data.toList.length = s.size := by rw [Array.length_toList]; rfl
  generalize s.data.toList = l at *
  refine W.enter Tryd.func4 rfl Tryd.ntmps4 (Nat.le_of_ble_eq_true rfl) ?_
  have hB0 := Below.refl w.heap.size w
  refine W.seq ?_
  refine W.reg ?_ -- 0
  refine WL.p (.as rfl) rfl <| WL.nil <| ?_
  refine W.seq ?_
  refine W.seq ?_
  refine W.reg ?_ -- 1
  refine WL.p (.mv rfl) rfl <| WL.p (.len Tryd.underlying9 rfl) rfl <| WL.p (.gtr rfl rfl) rfl <| WL.nil <| ?_
  refine W.cond rfl (fun h1 => ?_) (fun h1 => ?_) -- slot 11
  · have h1' := of_decide_eq_true h1
    refine W.seq ?_
    refine W.reg ?_ -- 2
    refine WL.c1 hb14 rfl rfl ((answers02 _)) (fun w2 hw2 => ?_)
    have hB3 := btr hB0 hw2
    refine WL.p (.as rfl) rfl <| WL.nil <| ?_
    refine W.ret (W.ret1 rfl rfl ?_)
    exact ⟨rfl, hB3⟩
  · have h1' := of_decide_eq_false h1
    refine W.skip ?_
    refine W.seq ?_
    refine W.reg ?_ -- 3
    refine WL.p (.mv rfl) rfl <| WL.c1 hb17 rfl rfl ((dec_Token l _)) (fun w4 hw4 => ?_)
    have hB5 := btr hB0 hw4
    refine WL.p (.mv rfl) rfl <| WL.p (.ext rfl rfl) rfl <| WL.p (.ext rfl rfl) rfl <| WL.p (.ext rfl rfl) rfl <| WL.alloc Tryd.zeroValue27 rfl (fun b6 wb6 eb6 hkb6 hub6 hsb6 => ?_)
    have hB7 := Upd.below hB5 (by rw [eb6]; exact hB5.size) hub6
    have hgeb6 : w.heap.size ≤ b6 := by rw [eb6]; exact hB5.size
    refine WL.stL rfl rfl hkb6 isz27 rfl rfl (fun w8 hkw8 huw8 hsw8 => ?_)
    have hB9 := Upd.below hB7 (by omega) huw8
    refine WL.p (.as rfl) rfl <| WL.p (.as rfl) rfl <| WL.nil <| ?_
    refine W.seq ?_
    refine W.reg ?_ -- 4
    refine WL.p (.mv rfl) rfl <| WL.c1 hb18 rfl rfl ((ref_Token l _)) (fun w10 hw10 => ?_)
    have hk11 := hkw8.below hw10 hkw8.lt
    have hB12 := btr hB9 hw10
    refine WL.p (.mv rfl) rfl <| WL.p (.ext rfl rfl) rfl <| WL.p (.ext rfl rfl) rfl <| WL.p (.ext rfl rfl) rfl <| WL.alloc Tryd.zeroValue27 rfl (fun b13 wb13 eb13 hkb13 hub13 hsb13 => ?_)
    have hl15 : b6 < b13 := by rw [eb13]; exact hk11.lt
    have hk14 := hk11.upd hub13 (Nat.ne_of_lt hl15)
    have hB16 := Upd.below hB12 (by rw [eb13]; exact hB12.size) hub13
    have hgeb13 : w.heap.size ≤ b13 := by rw [eb13]; exact hB12.size
    refine WL.stL rfl rfl hkb13 isz27 rfl rfl (fun w17 hkw17 huw17 hsw17 => ?_)
    have hk18 := hk14.upd huw17 (by omega)
    have hB19 := Upd.below hB16 (by omega) huw17
    refine WL.p (.as rfl) rfl <| WL.p (.as rfl) rfl <| WL.nil <| ?_
    refine W.seq ?_
    refine W.reg ?_ -- 5
    refine WL.c1 hb14 rfl rfl ((answers02 _)) (fun w20 hw20 => ?_)
    have hk21 := hk18.below hw20 hk18.lt
    have hk22 := hkw17.below hw20 hkw17.lt
    have hB23 := btr hB19 hw20
    refine WL.p (.mv rfl) rfl <| WL.gy rfl rfl rfl rfl <| WL.r (Rd.ldA rfl hk21 Tryd.underlying27 rfl isz27) rfl <| WL.gy rfl rfl rfl rfl <| WL.r (Rd.ldA rfl hk22 Tryd.underlying27 rfl isz27) rfl <| WL.gy rfl rfl rfl rfl <| WL.p (.bis (true) (.eqAgg rfl rfl eg27 (eqA27 _ _ _ _ _ _)) (by simp)) rfl <| WL.p (.pkT rfl rfl rfl) rfl <| WL.p (.mv rfl) rfl <| WL.gy rfl rfl rfl rfl <| WL.p (.mv rfl) rfl <| WL.gy rfl rfl rfl rfl <| WL.p (.mv rfl) rfl <| WL.gy rfl rfl rfl rfl <| WL.p (.bis (true) (.eqb Tryd.underlying4 rfl rfl) (by simp)) rfl <| WL.p (.pkT rfl rfl rfl) rfl <| WL.p (.mv rfl) rfl <| WL.gy rfl rfl rfl rfl <| WL.p (.mv rfl) rfl <| WL.gy rfl rfl rfl rfl <| WL.p (.mv rfl) rfl <| WL.gy rfl rfl rfl rfl <| WL.p (.bis (true) (.eql rfl rfl) (by simp)) rfl <| WL.p (.pkT rfl rfl rfl) rfl <| WL.p (.as rfl) rfl <| WL.nil <| ?_
    refine W.ret (W.ret1 rfl rfl ?_)
    exact ⟨rfl, hB23⟩

set_option maxRecDepth 100000 in
theorem contract_DecTokens (H : Type) (enc : TypeId × Value → H) (W : World) (base : Nat) (args : Array Value) (ds gs : List (DataW H)) (before : List MemPlace)
    (hval : ∀ (j : Nat) t v, Tryd.f4.params[j]? = some t → args[j]? = some v → Value.okWide Tryd.prog W .any base t v)
    (hW : DataW.Whole enc Tryd.prog Tryd.f4.params.toList Rows.decTokensSpec.vars false W args.toList ds gs before) :
    Calls Tryd.prog 4 args W fun e W' => ∃ v, e = .returned v ∧ Rows.decTokensSpec.post enc Tryd.prog Tryd.f4 false true false false W args v W' := by
  have hW' := hW
  obtain ⟨p, q, hA0, hV, rfl, hfz, hnd⟩ := hW
  have hA : DataW.TrodAll enc Tryd.prog W 0 (fun _ => true) true Tryd.f4.params.toList args.toList ds p := hA0
  rw [Tryd.params4] at hA hval
  obtain ⟨v0, vs0, d0, ds0, p0, q0, hargs0, rfl, rfl, h0, r0⟩ := trodAll_cons hA
  obtain ⟨rfl, rfl, rfl⟩ := trodAll_nil r0
  obtain rfl : args = #[v0] := by cases args; simp_all
  obtain ⟨rfl, rfl⟩ := trodVars_none hV
  obtain ⟨s0, rfl, rfl, rfl, hm0⟩ := open_string Tryd.underlying9 (hval 0 9 v0 rfl rfl) h0
  clear hA0
  simp only [List.append_nil] at hW'
  refine (law_DecTokens s0 W hm0).mono fun e W' ⟨he, bel⟩ => ?_
  subst he
  exact ⟨_, rfl, _, _, _, [], _, [], hW', trodAll_mk1 (shut_bool Tryd.underlying4 _), (trodAll_cons_mk (shut_string Tryd.underlying9 hm0) trodAll_mk0), rfl, bel.frame _, fun h => by cases h⟩

theorem laid_met_DecTokens (os : Os) : laidMet Tryd.prog Rows.decTokensRow.laid ((laidWorld os).forCall (fun _ _ => 0) ⟨#[], #[.string .empty], []⟩).memory :=
  laidMet_of_run' 8 (by kernel_rfl) (by kernel_rfl)
theorem reads_DecTokens (os : Os) {H : Type} (enc : TypeId × Value → H) : ∃ places, DataW.whole enc Tryd.prog ((laidWorld os).forCall (fun _ _ => 0) ⟨#[], #[.string .empty], []⟩).memory Tryd.f4.params.toList Rows.decTokensSpec.vars false #[Value.string .empty].toList 8 = some ([.lit (.string [])], [], places) :=
  ⟨[], by kernel_rfl⟩

set_option maxRecDepth 100000 in
theorem lifted_DecTokens (os : Os) (started : os.Started) (H : Type) (enc : TypeId × Value → H) (F : Stop.Interp) :
    ReturnsInHanded {} Tryd.checked os 4 .any ((OpenSpec.ofChange Rows.decTokensSpec).preRow enc Tryd.prog Tryd.f4 Rows.decTokensRow.domain false Rows.decTokensRow.laid) (((OpenSpec.ofChange Rows.decTokensSpec).at F).post enc Tryd.prog Tryd.f4 false true false false) := by
  obtain ⟨places, hx⟩ := reads_DecTokens os enc
  refine returnsInHanded_of_row (C := Tryd.checked) (s := OpenSpec.ofChange Rows.decTokensSpec) own started (by kernel_rfl) Tryd.func4
    (witness_row_at (enc := enc) (C := Tryd.checked) false (laidWorld os) #[.string .empty] rfl (by kernel_rfl) (by kernel_rfl) (by kernel_rfl)
      (OpenSpec.preRow_of_cond 8 hx (by kernel_rfl) (fun k hk => by cases hk) (by kernel_rfl) (laid_met_DecTokens os))) ?_
  intro W base args ds gs before hval hW _ _ _ hL _ _
  exact contract_DecTokens H enc W base args ds gs before hval hW

theorem said_DecTokens : Rows.DecTokensSaid :=
  OpenClaim.holds_of_cond 4 Tryd.f4 rfl rfl rfl rfl rfl rfl rfl ⟨rfl, rfl, rfl, rfl, rfl⟩ rfl rfl rfl rfl rfl (by kernel_rfl) Tryd.func4 (by kernel_rfl)
    (of_decide_eq_true (by kernel_rfl)) (by unfold Func.isWrapper; first | (rw [if_pos (by decide +kernel)]; kernel_rfl) | (rw [if_neg (by decide +kernel)]; exact ⟨rfl, rfl⟩))
    (fun os started H enc _ F => by rw [OpenClaim.pre_eq_preRow]; exact lifted_DecTokens os started H enc F)

theorem plain_DecTokens (f : FuncId) (fn : Func) (hf : Tryd.pinned.checked.prog.funcNamed "mezzotint/mezzotintlaw02.DecTokens" = some f) (hfn : Tryd.pinned.checked.prog.funcs[f]? = some fn) :
    true = Tryd.pinned.checked.prog.looks [] ∧ ∀ (j : Nat) t, fn.params[j]? = some t → Tryd.pinned.checked.prog.wantsStandIn t = false := by
  obtain rfl : f = 4 := Option.some.inj ((show Tryd.prog.funcNamed "mezzotint/mezzotintlaw02.DecTokens" = some 4 by kernel_rfl).symm.trans hf) |>.symm
  obtain rfl : fn = Tryd.f4 := (Option.some.inj (Tryd.func4.symm.trans hfn)).symm
  refine ⟨by kernel_rfl, fun j t ht => ?_⟩
  rw [Tryd.params4] at ht
  obtain rfl : t = 9 := by simpa using Array.mem_of_getElem? ht
  exact (show Tryd.prog.wantsStandIn 9 = false by kernel_rfl)

/-- THE CARD -/
theorem DecTokens_holds : Rows.DecTokensCardSaid :=
  Claim7.holds_tied_plain_at .later [] _ _ _ _ said_DecTokens (fun _ h => by cases h) (by kernel_rfl) (fun _ h => by cases h) decTokens_row_tie rfl ⟨rfl, rfl⟩ (by kernel_rfl) rfl plain_DecTokens (by kernel_rfl)
#print axioms DecTokens_holds

end Go.Proofs.YteaohajihhpnmaaDoor
