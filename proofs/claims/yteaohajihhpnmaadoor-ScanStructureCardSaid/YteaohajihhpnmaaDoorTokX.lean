/-
  The law DecTokens, walked.
-/
import Derived.Test.YteaohajihhpnmaaDoorTokW
import Derived.Test.YteaohajihhpnmaaDoorAns
namespace Go.Proofs.YteaohajihhpnmaaDoor
open Go.RowKit

theorem ref_Token (l : List UInt8) (w : World) :
    Calls Tryd.prog 18 #[.string (bs l)] w fun e w' => e = .returned (tokenL l).val ∧ Below w.heap.size w w' := by
  by_cases hl : 64 < l.length
  · rw [tokenL_long l hl]; exact ref_Token_long l w hl
  · cases hR : radixOk l with
    | false => rw [tokenL_plain l (by omega) hR]; exact ref_Token_plain l w (by omega) hR
    | true =>
      obtain ⟨A, B, hs, hc, hA0, hA2, hdig, hB⟩ := radixOk_split l hR
      rw [tokenL_radix l A B (by omega) hR hc]
      subst hs
      match A, hA0, hA2, hdig, hl with
      | [x], _, _, hdig, hl => exact ref_Token_radix1 x B w (by simp at hl; omega) hB (hdig x (by simp))
      | [x, y], _, _, hdig, hl => exact ref_Token_radix2 x y B w (by simp at hl; omega) hB (hdig x (by simp)) (hdig y (by simp))

theorem law_DecTokens (s : ByteArray) (w : World) (_hm : s.size ≤ maxLen) :
    Calls Tryd.prog 4 #[.string s] w fun e w' => e = .returned (.bool true) ∧ Below w.heap.size w w' := by
  rw [← bs_self s]
  have hl : s.data.toList.length = s.size := by rw [Array.length_toList]; rfl
  generalize s.data.toList = l at *
  refine W.enter Tryd.func4 rfl Tryd.ntmps4 (Nat.le_of_ble_eq_true rfl) ?_
  have hB0 := Below.refl w.heap.size w
  refine W.seq ?_
  refine W.reg ?_ -- 0
  refine WL.p (.as rfl) rfl <| WL.nil <| ?_
  refine W.seq ?_
  refine W.seq ?_
  refine W.reg ?_ -- 1
  refine WL.p (.mv rfl) rfl <| WL.p (.len Tryd.underlying9 rfl) rfl <| WL.p (.gtr rfl rfl) rfl <| WL.nil <| ?_
  refine W.cond rfl (fun h1 => ?_) (fun h1 => ?_) -- slot 11
  · have h1' := of_decide_eq_true h1
    refine W.seq ?_
    refine W.reg ?_ -- 2
    refine WL.c1 hb14 rfl rfl ((answers02 _)) (fun w2 hw2 => ?_)
    have hB3 := btr hB0 hw2
    refine WL.p (.as rfl) rfl <| WL.nil <| ?_
    refine W.ret (W.ret1 rfl rfl ?_)
    exact ⟨rfl, hB3⟩
  · have h1' := of_decide_eq_false h1
    refine W.skip ?_
    refine W.seq ?_
    refine W.reg ?_ -- 3
    refine WL.p (.mv rfl) rfl <| WL.c1 hb17 rfl rfl ((dec_Token l _)) (fun w4 hw4 => ?_)
    have hB5 := btr hB0 hw4
    refine WL.p (.mv rfl) rfl <| WL.p (.ext rfl rfl) rfl <| WL.p (.ext rfl rfl) rfl <| WL.p (.ext rfl rfl) rfl <| WL.alloc Tryd.zeroValue27 rfl (fun b6 wb6 eb6 hkb6 hub6 hsb6 => ?_)
    have hB7 := Upd.below hB5 (by rw [eb6]; exact hB5.size) hub6
    have hgeb6 : w.heap.size ≤ b6 := by rw [eb6]; exact hB5.size
    refine WL.stL rfl rfl hkb6 isz27 rfl rfl (fun w8 hkw8 huw8 hsw8 => ?_)
    have hB9 := Upd.below hB7 (by omega) huw8
    refine WL.p (.as rfl) rfl <| WL.p (.as rfl) rfl <| WL.nil <| ?_
    refine W.seq ?_
    refine W.reg ?_ -- 4
    refine WL.p (.mv rfl) rfl <| WL.c1 hb18 rfl rfl ((ref_Token l _)) (fun w10 hw10 => ?_)
    have hk11 := hkw8.below hw10 hkw8.lt
    have hB12 := btr hB9 hw10
    refine WL.p (.mv rfl) rfl <| WL.p (.ext rfl rfl) rfl <| WL.p (.ext rfl rfl) rfl <| WL.p (.ext rfl rfl) rfl <| WL.alloc Tryd.zeroValue27 rfl (fun b13 wb13 eb13 hkb13 hub13 hsb13 => ?_)
    have hl15 : b6 < b13 := by rw [eb13]; exact hk11.lt
    have hk14 := hk11.upd hub13 (Nat.ne_of_lt hl15)
    have hB16 := Upd.below hB12 (by rw [eb13]; exact hB12.size) hub13
    have hgeb13 : w.heap.size ≤ b13 := by rw [eb13]; exact hB12.size
    refine WL.stL rfl rfl hkb13 isz27 rfl rfl (fun w17 hkw17 huw17 hsw17 => ?_)
    have hk18 := hk14.upd huw17 (by ((try simp only) <;> omega))
    have hB19 := Upd.below hB16 (by omega) huw17
    refine WL.p (.as rfl) rfl <| WL.p (.as rfl) rfl <| WL.nil <| ?_
    refine W.seq ?_
    refine W.reg ?_ -- 5
    refine WL.c1 hb14 rfl rfl ((answers02 _)) (fun w20 hw20 => ?_)
    have hk21 := hk18.below hw20 hk18.lt
    have hk22 := hkw17.below hw20 hkw17.lt
    have hB23 := btr hB19 hw20
    refine WL.p (.mv rfl) rfl <| WL.gy rfl rfl rfl rfl <| WL.r (Rd.ldA rfl hk21 Tryd.underlying27 rfl isz27) rfl <| WL.gy rfl rfl rfl rfl <| WL.r (Rd.ldA rfl hk22 Tryd.underlying27 rfl isz27) rfl <| WL.gy rfl rfl rfl rfl <| WL.p (.bis (true) (.eqAgg rfl rfl eg27 (eqA27 _ _ _ _ _ _)) (by simp)) rfl <| WL.p (.pkT rfl rfl rfl) rfl <| WL.p (.mv rfl) rfl <| WL.gy rfl rfl rfl rfl <| WL.p (.mv rfl) rfl <| WL.gy rfl rfl rfl rfl <| WL.p (.mv rfl) rfl <| WL.gy rfl rfl rfl rfl <| WL.p (.bis (true) (.eqb Tryd.underlying4 rfl rfl) (by simp)) rfl <| WL.p (.pkT rfl rfl rfl) rfl <| WL.p (.mv rfl) rfl <| WL.gy rfl rfl rfl rfl <| WL.p (.mv rfl) rfl <| WL.gy rfl rfl rfl rfl <| WL.p (.mv rfl) rfl <| WL.gy rfl rfl rfl rfl <| WL.p (.bis (true) (.eql rfl rfl) (by simp)) rfl <| WL.p (.pkT rfl rfl rfl) rfl <| WL.p (.as rfl) rfl <| WL.nil <| ?_
    refine W.ret (W.ret1 rfl rfl ?_)
    exact ⟨rfl, hB23⟩

end Go.Proofs.YteaohajihhpnmaaDoor
