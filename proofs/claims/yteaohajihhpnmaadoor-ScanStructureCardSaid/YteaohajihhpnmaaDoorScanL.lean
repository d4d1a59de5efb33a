/-
  Scan: the laws ScanNext and ScanAll, walked.
-/
import Derived.Test.YteaohajihhpnmaaDoorScanQ
import Derived.Test.YteaohajihhpnmaaDoorFwE
import Derived.Test.YteaohajihhpnmaaDoorScanS
namespace Go.Proofs.YteaohajihhpnmaaDoor
open Go.RowKit

theorem ans_round : roundS 1 [] [97, 41, 32, 98] = some ([97], [32, 98]) := by
  rw [roundS.eq_def]
  show roundS 1 ([] ++ [97]) [41, 32, 98] = _
  rw [roundS.eq_def]; rfl
theorem ans_next : nextR [40, 97, 41, 32, 98] 0 = ⟨6, 0, [97], 3, 0⟩ := by
  have hT : tokS [40, 97, 41, 32, 98] = .ok (⟨6, 0, [97]⟩, [32, 98]) := by
    show textS (roundS 1 [] [97, 41, 32, 98]) = _
    rw [ans_round]; rfl
  show nrOf [40, 97, 41, 32, 98] (tokS [40, 97, 41, 32, 98]) = _
  rw [hT]; rfl
theorem answers04 (w : World) : Calls Tryd.prog 23 #[] w fun e w' => e = .returned (.bool true) ∧ Below w.heap.size w w' := by
  have hN := ans_next
  refine W.enter Tryd.func23 rfl Tryd.ntmps23 (Nat.le_of_ble_eq_true rfl) ?_
  have hB0 := Below.refl (w.heap.size) w
  refine W.seq ?_
  refine W.reg ?_ -- 0
  refine WL.p (.as rfl) rfl <| WL.nil <| ?_
  refine W.seq ?_
  refine W.reg ?_ -- 1
  refine WL.bsl (ps := _) Tryd.underlying32 Tryd.sizeOf5 Tryd.zeroValue5 rfl rfl rfl rfl rfl (by simp only [put1, List.map, List.zip, List.zipWith, List.set, List.replicate] <;> rfl) rfl (fun b1 wb1 eb1 hkb1 hub1 hsb1 => ?_)
  have hB2 := Upd.below hB0 (by rw [eb1]; exact hB0.size) hub1
  have hgeb1 : w.heap.size ≤ b1 := by rw [eb1]; exact hB0.size
  refine WL.cvB ([40, 97, 41, 32, 98]) Tryd.underlying32 Tryd.underlying5 rfl hkb1 rfl rfl (fun w3 hb huw3 hsw3 => ?_)
  have hB4 := Upd.below hB2 (by omega) huw3
  refine WL.c1 hb24 rfl rfl ((scan_Next 0 _ [40, 97, 41, 32, 98] 5 _ hb (by decide) (by decide))) (fun w5 hw5 => ?_)
  have hv6 := BytesAt.below hb hw5 (fun h0 => hb.lt h0)
  have hB7 := btr hB4 hw5
  rw [hN]
  refine WL.p (.mv rfl) rfl <| WL.p (.ext rfl rfl) rfl <| WL.p (.ext rfl rfl) rfl <| WL.p (.ext rfl rfl) rfl <| WL.alloc Tryd.zeroValue27 rfl (fun b8 wb8 eb8 hkb8 hub8 hsb8 => ?_)
  have hvl10 := fun h0 => eb8 ▸ hv6.lt h0
  have hv9 := BytesAt.upd hv6 hub8 (fun h0 => Nat.ne_of_lt (hvl10 h0))
  have hB11 := Upd.below hB7 (by rw [eb8]; exact hB7.size) hub8
  have hgeb8 : w.heap.size ≤ b8 := by rw [eb8]; exact hB7.size
  refine WL.stL rfl rfl hkb8 isz27 rfl rfl (fun w12 hkw12 huw12 hsw12 => ?_)
  have hv13 := BytesAt.upd hv9 huw12 (fun h0 => Nat.ne_of_lt (hvl10 h0))
  have hB14 := Upd.below hB11 (by omega) huw12
  refine WL.p (.as rfl) rfl <| WL.p (.as rfl) rfl <| WL.nil <| ?_
  refine W.seq ?_
  refine W.reg ?_ -- 2
  refine WL.p (.mv rfl) rfl <| WL.p (.eql rfl rfl) rfl <| WL.p (.mv rfl) rfl <| WL.gy rfl rfl rfl rfl <| WL.p (.mv rfl) rfl <| WL.gy rfl rfl rfl rfl <| WL.p (.eql rfl rfl) rfl <| WL.p (.pkT rfl rfl rfl) rfl <| WL.p (.mv rfl) rfl <| WL.gy rfl rfl rfl rfl <| WL.p (.fa Tryd.underlying27 rfl Tryd.sizeOf3 (by decide) rfl) rfl <| WL.gy rfl rfl rfl rfl <| WL.r (Rd.ld (Tryd.isAgg3 _) rfl hkw12 rfl) rfl <| WL.gy rfl rfl rfl rfl <| WL.p (.eql rfl rfl) rfl <| WL.p (.pkT rfl rfl rfl) rfl <| WL.p (.mv rfl) rfl <| WL.gy rfl rfl rfl rfl <| WL.p (.fa Tryd.underlying27 rfl Tryd.sizeOf9 (by decide) rfl) rfl <| WL.gy rfl rfl rfl rfl <| WL.r (Rd.ld (Tryd.isAgg9 _) rfl hkw12 rfl) rfl <| WL.gy rfl rfl rfl rfl <| WL.p (.eqs rfl rfl) rfl <| WL.p (.pkT rfl rfl rfl) rfl <| WL.p (.as rfl) rfl <| WL.nil <| ?_
  refine W.ret (W.ret1 rfl rfl ?_)
  exact ⟨rfl, hB14⟩
theorem law_ScanNext (p : Option Addr) (l : List UInt8) (c : Nat) (a : Int) (w : World) (hb : BytesAt w p l) (hc : l.length ≤ c) (hnb : l = [] → c = 0 ∨ p ≠ none) (_ha : (Lit.int .i64 a).wf = true) :
    Calls Tryd.prog 8 #[.slice p l.length c, .int .i64 a] w fun e w' => e = .returned (.bool true) ∧ Below w.heap.size w w' := by
  refine W.enter Tryd.func8 rfl Tryd.ntmps8 (Nat.le_of_ble_eq_true rfl) ?_
  have hB0 := Below.refl (w.heap.size) w
  refine W.seq ?_
  refine W.reg ?_ -- 0
  refine WL.p (.as rfl) rfl <| WL.nil <| ?_
  refine W.seq ?_
  refine W.seq ?_
  refine W.reg ?_ -- 1
  refine WL.p (.mv rfl) rfl <| WL.p (.lenS Tryd.underlying32 rfl) rfl <| WL.p (.gtr rfl rfl) rfl <| WL.nil <| ?_
  refine W.cond rfl (fun h1 => ?_) (fun h1 => ?_) -- slot 13
  · have h1' := of_decide_eq_true h1
    refine W.seq ?_
    refine W.reg ?_ -- 2
    refine WL.c1 hb23 rfl rfl ((answers04 _)) (fun w2 hw2 => ?_)
    have hv3 := BytesAt.below hb hw2 (fun h0 => hb.lt h0)
    have hB4 := btr hB0 hw2
    refine WL.p (.as rfl) rfl <| WL.nil <| ?_
    refine W.ret (W.ret1 rfl rfl ?_)
    exact ⟨rfl, hB4⟩
  · have h1' := of_decide_eq_false h1
    refine W.skip ?_
    refine W.seq ?_
    refine W.reg ?_ -- 3
    refine WL.bsl0 Tryd.underlying32 Tryd.sizeOf5 rfl (fun b5 wb5 eb5 hob5 hub5 hsb5 => ?_)
    have hvl7 := fun h0 => eb5 ▸ hb.lt h0
    have hv6 := BytesAt.upd hb hub5 (fun h0 => Nat.ne_of_lt (hvl7 h0))
    have hB8 := Upd.below hB0 (by rw [eb5]; exact hB0.size) hub5
    have hgeb5 : w.heap.size ≤ b5 := by rw [eb5]; exact hB0.size
    have hob5 := hob5 b5 (Nat.le_refl _)
    have hleb5 : b5 ≤ wb5.heap.size := by omega
    refine WL.p (.mv rfl) rfl <| WL.appB Tryd.underlying32 inf5 rfl rfl rfl hob5 rfl hv6 (by simp only [byteVals_len, List.length_nil]; omega) (hleb5) rfl (hnb) (fun v9 w10 how10 hbw10 hgw10 => ?_)
    have hv11 := BytesAt.below hv6 hbw10 hvl7
    have hB12 := Below.trans hB8 (hbw10.mono (hgeb5))
    have hle13 := Nat.le_trans hleb5 hbw10.size
    obtain ⟨pq, cq, eq, hq, hBq, hcq, hnq⟩ := Own.bytesC (l := l) how10
    subst eq
    refine WL.p (.mv rfl) rfl <| WL.c1 hb24 rfl rfl ((scan_Next a _ l _ _ hq hcq (by omega))) (fun w14 hw14 => ?_)
    have hv15 := BytesAt.below hv11 hw14 (fun h0 => hv11.lt h0)
    have hv16 := BytesAt.below hq hw14 (fun h0 => hq.lt h0)
    have hB17 := btr hB12 hw14
    refine WL.p (.mv rfl) rfl <| WL.p (.ext rfl rfl) rfl <| WL.p (.ext rfl rfl) rfl <| WL.p (.ext rfl rfl) rfl <| WL.alloc Tryd.zeroValue27 rfl (fun b18 wb18 eb18 hkb18 hub18 hsb18 => ?_)
    have hvl20 := fun h0 => eb18 ▸ hv15.lt h0
    have hv19 := BytesAt.upd hv15 hub18 (fun h0 => Nat.ne_of_lt (hvl20 h0))
    have hvl22 := fun h0 => eb18 ▸ hv16.lt h0
    have hv21 := BytesAt.upd hv16 hub18 (fun h0 => Nat.ne_of_lt (hvl22 h0))
    have hB23 := Upd.below hB17 (by rw [eb18]; exact hB17.size) hub18
    have hgeb18 : w.heap.size ≤ b18 := by rw [eb18]; exact hB17.size
    refine WL.stL rfl rfl hkb18 isz27 rfl rfl (fun w24 hkw24 huw24 hsw24 => ?_)
    have hv25 := BytesAt.upd hv19 huw24 (fun h0 => Nat.ne_of_lt (hvl20 h0))
    have hv26 := BytesAt.upd hv21 huw24 (fun h0 => Nat.ne_of_lt (hvl22 h0))
    have hB27 := Upd.below hB23 (by omega) huw24
    refine WL.p (.as rfl) rfl <| WL.p (.as rfl) rfl <| WL.nil <| ?_
    refine W.seq ?_
    refine W.reg ?_ -- 4
    refine WL.p (.mv rfl) rfl <| WL.p (.mv rfl) rfl <| WL.c1 hb25 rfl rfl ((ref_Next a _ l _ _ hv25 hc (by omega))) (fun w28 hw28 => ?_)
    have hk29 := hkw24.below hw28 hkw24.lt
    have hv30 := BytesAt.below hv25 hw28 (fun h0 => hv25.lt h0)
    have hv31 := BytesAt.below hv26 hw28 (fun h0 => hv26.lt h0)
    have hB32 := btr hB27 hw28
    refine WL.p (.mv rfl) rfl <| WL.p (.ext rfl rfl) rfl <| WL.p (.ext rfl rfl) rfl <| WL.p (.ext rfl rfl) rfl <| WL.alloc Tryd.zeroValue27 rfl (fun b33 wb33 eb33 hkb33 hub33 hsb33 => ?_)
    have hl35 : b18 < b33 := by rw [eb33]; exact hk29.lt
    have hk34 := hk29.upd hub33 (Nat.ne_of_lt hl35)
    have hvl37 := fun h0 => eb33 ▸ hv30.lt h0
    have hv36 := BytesAt.upd hv30 hub33 (fun h0 => Nat.ne_of_lt (hvl37 h0))
    have hvl39 := fun h0 => eb33 ▸ hv31.lt h0
    have hv38 := BytesAt.upd hv31 hub33 (fun h0 => Nat.ne_of_lt (hvl39 h0))
    have hB40 := Upd.below hB32 (by rw [eb33]; exact hB32.size) hub33
    have hgeb33 : w.heap.size ≤ b33 := by rw [eb33]; exact hB32.size
    refine WL.stL rfl rfl hkb33 isz27 rfl rfl (fun w41 hkw41 huw41 hsw41 => ?_)
    have hk42 := hk34.upd huw41 (by ((try simp only) <;> omega))
    have hv43 := BytesAt.upd hv36 huw41 (fun h0 => Nat.ne_of_lt (hvl37 h0))
    have hv44 := BytesAt.upd hv38 huw41 (fun h0 => Nat.ne_of_lt (hvl39 h0))
    have hB45 := Upd.below hB40 (by omega) huw41
    refine WL.p (.as rfl) rfl <| WL.p (.as rfl) rfl <| WL.nil <| ?_
    refine W.seq ?_
    refine W.reg ?_ -- 5
    refine WL.c1 hb23 rfl rfl ((answers04 _)) (fun w46 hw46 => ?_)
    have hk47 := hk42.below hw46 hk42.lt
    have hk48 := hkw41.below hw46 hkw41.lt
    have hv49 := BytesAt.below hv43 hw46 (fun h0 => hv43.lt h0)
    have hv50 := BytesAt.below hv44 hw46 (fun h0 => hv44.lt h0)
    have hB51 := btr hB45 hw46
    refine WL.p (.mv rfl) rfl <| WL.gy rfl rfl rfl rfl <| WL.r (Rd.ldA rfl hk47 Tryd.underlying27 rfl isz27) rfl <| WL.gy rfl rfl rfl rfl <| WL.r (Rd.ldA rfl hk48 Tryd.underlying27 rfl isz27) rfl <| WL.gy rfl rfl rfl rfl <| WL.p (.bis (true) (.eqAgg rfl rfl eg27 (eqA27 _ _ _ _ _ _)) (by simp)) rfl <| WL.p (.pkT rfl rfl rfl) rfl <| WL.p (.mv rfl) rfl <| WL.gy rfl rfl rfl rfl <| WL.p (.mv rfl) rfl <| WL.gy rfl rfl rfl rfl <| WL.p (.mv rfl) rfl <| WL.gy rfl rfl rfl rfl <| WL.p (.bis (true) (.eql rfl rfl) (by simp)) rfl <| WL.p (.pkT rfl rfl rfl) rfl <| WL.p (.mv rfl) rfl <| WL.gy rfl rfl rfl rfl <| WL.p (.mv rfl) rfl <| WL.gy rfl rfl rfl rfl <| WL.p (.mv rfl) rfl <| WL.gy rfl rfl rfl rfl <| WL.p (.bis (true) (.eql rfl rfl) (by simp)) rfl <| WL.p (.pkT rfl rfl rfl) rfl <| WL.p (.as rfl) rfl <| WL.nil <| ?_
    refine W.ret (W.ret1 rfl rfl ?_)
    exact ⟨rfl, hB51⟩

theorem ref_Same (p : Option Addr) (l : List UInt8) (c : Nat) (q : Option Addr) (v : List UInt8) (d : Nat) (w : World) (ha : BytesAt w p l) (hb : BytesAt w q v) (hl : l.length ≤ 1000000000) (hv : v.length ≤ 1000000000) :
    Calls Tryd.prog 26 #[.slice p l.length c, .slice q v.length d] w fun e w' => e = .returned (.bool (decide (l = v))) ∧ Drew w w' := by
  refine W.enter Tryd.func26 rfl Tryd.ntmps26 (Nat.le_of_ble_eq_true rfl) ?_
  refine W.seq ?_
  refine W.reg ?_ -- 0
  refine WL.p (.as rfl) rfl <| WL.nil <| ?_
  refine W.seq ?_
  refine W.seq ?_
  refine W.reg ?_ -- 1
  refine WL.p (.mv rfl) rfl <| WL.p (.lenS Tryd.underlying32 rfl) rfl <| WL.p (.mv rfl) rfl <| WL.p (.lenS Tryd.underlying32 rfl) rfl <| WL.p (.neq rfl rfl) rfl <| WL.nil <| ?_
  refine W.cond rfl (fun h1 => ?_) (fun h1 => ?_) -- slot 10
  · have h1' := ndT h1
    refine W.seq ?_
    refine W.reg ?_ -- 2
    refine WL.p (.as rfl) rfl <| WL.nil <| ?_
    refine W.ret (W.ret1 rfl rfl ?_)
    exact ⟨ret_bool (decide_eq_false (fun e => by subst e; omega)).symm, Drew.refl _⟩
  · have h1' := ndF h1
    refine W.skip ?_
    refine W.seq ?_
    refine W.seq ?_
    refine W.reg ?_ -- 3
    refine WL.p (.as rfl) rfl <| WL.nil <| ?_
    refine W.block ?_
    have hlen : l.length = v.length := by omega
    -- loop 1: writes [4, 5, 11, 12, 13, 14, 15, 16, 17, 18, 19, 20, 21, 22, 23, 24, 25]; reads from outside [0, 1, 5]
    refine W.loop (α := Nat) (fun t => [(0, .slice p l.length c), (1, .slice q v.length d), (5, .int .i64 (t : Int))]) (fun t w' => Drew w w' ∧ t ≤ l.length ∧ l.take t = v.take t) (fun t => l.length - t) (0) ⟨rfl, rfl, rfl, trivial⟩ (⟨Drew.refl _, Nat.zero_le _, by simp⟩) (fun t w1 hR => ?_)
    obtain ⟨hD, ht, he⟩ := hR
    have ha1 := ha.drew hD
    have hb1 := hb.drew hD
    refine W.seq ?_
    refine W.seq ?_
    refine W.reg ?_ -- 4
    refine WL.p (.mv rfl) rfl <| WL.p (.mv rfl) rfl <| WL.p (.lenS Tryd.underlying32 rfl) rfl <| WL.p (.lss rfl rfl) rfl <| WL.nil <| ?_
    refine W.cond rfl (fun h2 => ?_) (fun h2 => ?_) -- slot 14
    · have h2' := of_decide_eq_true h2
      refine W.skip ?_
      refine W.seq ?_
      refine W.block ?_
      refine W.seq ?_
      refine W.regQ mixed (by kernel_rfl) ?_ -- 6
      refine WQ.p (.mv rfl) rfl <| WQ.p (.mv rfl) rfl <| WQ.p (.ixb Tryd.underlying32 Tryd.sizeOf5 rfl rfl (ha1.isp (by omega)) (t) (by omega) (by omega)) rfl <| WQ.r (fun m => Rd.ldc (Tryd.isAgg5 _) rfl ((ha1.drewN m).cells (t) (by omega))) rfl <| WQ.p (.mv rfl) rfl <| WQ.p (.mv rfl) rfl <| WQ.p (.ixb Tryd.underlying32 Tryd.sizeOf5 rfl rfl (hb1.isp (by omega)) (t) (by omega) (by omega)) rfl <| WQ.r (fun m => Rd.ldc (Tryd.isAgg5 _) rfl ((hb1.drewN m).cells (t) (by omega))) rfl <| WQ.p (.neq rfl rfl) rfl <| WQ.nil (fun w3 dw3 => ?_)
      have hv4 := ha1.drew dw3
      have hv5 := hb1.drew dw3
      refine W.cond rfl (fun h6 => ?_) (fun h6 => ?_) -- slot 25
      · have h6' := ndT h6
        refine W.seq ?_
        refine W.reg ?_ -- 7
        refine WL.p (.as rfl) rfl <| WL.nil <| ?_
        refine W.ret (W.ret1 rfl rfl ?_)
        first
        | exact ⟨ret_bool (decide_eq_false (fun e => by subst e; first | omega | contradiction)).symm, hD.trans dw3⟩
        | exact ⟨ret_bool (decide_eq_true (by rw [List.take_of_length_le (by omega), List.take_of_length_le (by omega)] at he; exact he)).symm, hD⟩
      · have h6' := ndF h6
        refine W.skip ?_
        refine W.reg ?_ -- 5
        refine WL.p (.mv rfl) rfl <| WL.p (.iis (((t + 1 : Nat) : Int)) (.add rfl rfl (i64w (by omega))) (by omega)) rfl <| WL.p (.as rfl) rfl <| WL.nil <| ?_
        exact ⟨t + 1, ⟨rfl, rfl, rfl, trivial⟩, ⟨hD.trans dw3, by omega, by rw [List.take_add_one, List.take_add_one, he, List.getElem?_eq_getElem (show t < l.length by omega), List.getElem?_eq_getElem (show t < v.length by omega), show l[t]'(by omega) = v[t]'(by omega) from u8_eq (by assumption)]⟩, by omega⟩
    · have h2' := of_decide_eq_false h2
      refine W.exit ?_ -- 0
      refine W.seq ?_
      refine W.reg ?_ -- 8
      refine WL.p (.as rfl) rfl <| WL.nil <| ?_
      refine W.ret (W.ret1 rfl rfl ?_)
      first
      | exact ⟨ret_bool (decide_eq_false (fun e => by subst e; first | omega | contradiction)).symm, hD.trans DREW⟩
      | exact ⟨ret_bool (decide_eq_true (by rw [List.take_of_length_le (by omega), List.take_of_length_le (by omega)] at he; exact he)).symm, hD⟩

theorem ref_Same_same (p : Option Addr) (l : List UInt8) (c : Nat) (q : Option Addr) (d : Nat) (w : World) (ha : BytesAt w p l) (hb : BytesAt w q l) (hl : l.length ≤ 1000000000) :
    Calls Tryd.prog 26 #[.slice p l.length c, .slice q l.length d] w fun e w' => e = .returned (.bool true) ∧ Drew w w' :=
  (ref_Same p l c q l d w ha hb hl hl).mono fun e w' h => ⟨h.1.trans (ret_bool (decide_eq_true rfl)), h.2⟩
theorem law_ScanAll (p : Option Addr) (l : List UInt8) (c : Nat) (w : World) (hb : BytesAt w p l) (hc : l.length ≤ c) (hnb : l = [] → c = 0 ∨ p ≠ none) :
    Calls Tryd.prog 9 #[.slice p l.length c] w fun e w' => e = .returned (.bool true) ∧ Below w.heap.size w w' := by
  refine W.enter Tryd.func9 rfl Tryd.ntmps9 (Nat.le_of_ble_eq_true rfl) ?_
  have hB0 := Below.refl (w.heap.size) w
  refine W.seq ?_
  refine W.reg ?_ -- 0
  refine WL.p (.as rfl) rfl <| WL.nil <| ?_
  refine W.seq ?_
  refine W.seq ?_
  refine W.reg ?_ -- 1
  refine WL.p (.mv rfl) rfl <| WL.p (.lenS Tryd.underlying32 rfl) rfl <| WL.p (.gtr rfl rfl) rfl <| WL.nil <| ?_
  refine W.cond rfl (fun h1 => ?_) (fun h1 => ?_) -- slot 14
  · have h1' := of_decide_eq_true h1
    refine W.seq ?_
    refine W.reg ?_ -- 2
    refine WL.c1 hb23 rfl rfl ((answers04 _)) (fun w2 hw2 => ?_)
    have hv3 := BytesAt.below hb hw2 (fun h0 => hb.lt h0)
    have hB4 := btr hB0 hw2
    refine WL.p (.as rfl) rfl <| WL.nil <| ?_
    refine W.ret (W.ret1 rfl rfl ?_)
    first
    | (exfalso; omega)
    | exact ⟨rfl, hB4⟩
  · have h1' := of_decide_eq_false h1
    refine W.skip ?_
    refine W.seq ?_
    refine W.reg ?_ -- 3
    refine WL.bsl0 Tryd.underlying32 Tryd.sizeOf5 rfl (fun b5 wb5 eb5 hob5 hub5 hsb5 => ?_)
    have hvl7 := fun h0 => eb5 ▸ hb.lt h0
    have hv6 := BytesAt.upd hb hub5 (fun h0 => Nat.ne_of_lt (hvl7 h0))
    have hB8 := Upd.below hB0 (by rw [eb5]; exact hB0.size) hub5
    have hgeb5 : w.heap.size ≤ b5 := by rw [eb5]; exact hB0.size
    have hob5 := hob5 b5 (Nat.le_refl _)
    have hleb5 : b5 ≤ wb5.heap.size := by omega
    refine WL.p (.mv rfl) rfl <| WL.appB Tryd.underlying32 inf5 rfl rfl rfl hob5 rfl hv6 (by simp only [byteVals_len, List.length_nil]; omega) (hleb5) rfl (hnb) (fun v9 w10 how10 hbw10 hgw10 => ?_)
    have hv11 := BytesAt.below hv6 hbw10 hvl7
    have hB12 := Below.trans hB8 (hbw10.mono (hgeb5))
    have hle13 := Nat.le_trans hleb5 hbw10.size
    obtain ⟨pq, cq, eq, hq, hBq, hcq, hnq⟩ := Own.bytesC (l := l) how10
    subst eq
    refine WL.p (.as rfl) rfl <| WL.nil <| ?_
    refine W.seq ?_
    refine W.reg ?_ -- 4
    refine WL.p (.as rfl) rfl <| WL.nil <| ?_
    refine W.seq ?_
    refine W.seq ?_
    refine W.reg ?_ -- 5
    refine WL.p (.as rfl) rfl <| WL.nil <| ?_
    refine W.block ?_
    -- loop 1: writes [2, 4, 5, 6, 7, 8, 9, 10, 11, 19, 20, 21, 22, 23, 24, 25, 26, 27, 28, 29, 30, 31, 32, 33, 34, 35, 36, 37, 38, 39, 40, 41, 42, 43, 44, 45, 46, 47, 48, 49, 50, 51, 52, 53, 54, 55, 56, 57, 58, 59, 60, 61, 62, 63, 64, 65, 66, 67, 68, 69, 70, 71, 72, 73, 74, 75, 76, 77, 78]; reads from outside [0, 3, 4, 5]
    refine W.loop (α := Nat × Nat) (fun t => [(0, .slice p l.length c), (3, .slice pq l.length cq), (4, .int .i64 (t.2 : Int)), (5, .int .i64 (t.1 : Int))]) (fun t w' => Below w.heap.size w w' ∧ BytesAt w' p l ∧ BytesAt w' pq l ∧ t.1 ≤ t.2 ∧ t.2 ≤ l.length) (fun t => l.length + 1 - t.1) ((0, 0)) ⟨rfl, rfl, rfl, rfl, trivial⟩ (⟨hB12, hv11, hq, Nat.le_refl _, Nat.zero_le _⟩) (fun t w1 hR => ?_)
    obtain ⟨i, a⟩ := t
    obtain ⟨hT, hb2, hq2, hia, hal⟩ := hR
    simp only at hia hal ⊢
    obtain ⟨R, hRn⟩ : ∃ R, R = nextR l (a : Int) := ⟨_, rfl⟩
    have hst := nextR_step l a hal
    rw [← hRn] at hst
    refine W.seq ?_
    refine W.seq ?_
    refine W.reg ?_ -- 6
    refine WL.p (.mv rfl) rfl <| WL.p (.mv rfl) rfl <| WL.p (.lenS Tryd.underlying32 rfl) rfl <| WL.p (.leq rfl rfl) rfl <| WL.nil <| ?_
    refine W.cond rfl (fun h14 => ?_) (fun h14 => ?_) -- slot 22
    · have h14' := of_decide_eq_true h14
      refine W.skip ?_
      refine W.seq ?_
      refine W.block ?_
      refine W.seq ?_
      refine W.reg ?_ -- 8
      refine WL.p (.mv rfl) rfl <| WL.p (.mv rfl) rfl <| WL.c1 hb24 rfl rfl ((scan_Next a _ l _ _ hq2 hcq (by omega))) (fun w15 hw15 => ?_)
      have hv16 := BytesAt.below hb2 hw15 (fun h0 => hb2.lt h0)
      have hv17 := BytesAt.below hq2 hw15 (fun h0 => hq2.lt h0)
      have hB18 := btr hT hw15
      rw [← hRn]
      refine WL.p (.mv rfl) rfl <| WL.p (.ext rfl rfl) rfl <| WL.p (.ext rfl rfl) rfl <| WL.p (.ext rfl rfl) rfl <| WL.alloc Tryd.zeroValue27 rfl (fun b19 wb19 eb19 hkb19 hub19 hsb19 => ?_)
      have hvl21 := fun h0 => eb19 ▸ hv16.lt h0
      have hv20 := BytesAt.upd hv16 hub19 (fun h0 => Nat.ne_of_lt (hvl21 h0))
      have hvl23 := fun h0 => eb19 ▸ hv17.lt h0
      have hv22 := BytesAt.upd hv17 hub19 (fun h0 => Nat.ne_of_lt (hvl23 h0))
      have hB24 := Upd.below hB18 (by rw [eb19]; exact hB18.size) hub19
      have hgeb19 : w.heap.size ≤ b19 := by rw [eb19]; exact hB18.size
      refine WL.stL rfl rfl hkb19 isz27 rfl rfl (fun w25 hkw25 huw25 hsw25 => ?_)
      have hv26 := BytesAt.upd hv20 huw25 (fun h0 => Nat.ne_of_lt (hvl21 h0))
      have hv27 := BytesAt.upd hv22 huw25 (fun h0 => Nat.ne_of_lt (hvl23 h0))
      have hB28 := Upd.below hB24 (by omega) huw25
      refine WL.p (.as rfl) rfl <| WL.p (.as rfl) rfl <| WL.nil <| ?_
      refine W.seq ?_
      refine W.reg ?_ -- 9
      refine WL.p (.mv rfl) rfl <| WL.p (.mv rfl) rfl <| WL.c1 hb25 rfl rfl ((ref_Next a _ l _ _ hv26 hc (by omega))) (fun w29 hw29 => ?_)
      have hk30 := hkw25.below hw29 hkw25.lt
      have hv31 := BytesAt.below hv26 hw29 (fun h0 => hv26.lt h0)
      have hv32 := BytesAt.below hv27 hw29 (fun h0 => hv27.lt h0)
      have hB33 := btr hB28 hw29
      rw [← hRn]
      refine WL.p (.mv rfl) rfl <| WL.p (.ext rfl rfl) rfl <| WL.p (.ext rfl rfl) rfl <| WL.p (.ext rfl rfl) rfl <| WL.alloc Tryd.zeroValue27 rfl (fun b34 wb34 eb34 hkb34 hub34 hsb34 => ?_)
      have hl36 : b19 < b34 := by rw [eb34]; exact hk30.lt
      have hk35 := hk30.upd hub34 (Nat.ne_of_lt hl36)
      have hvl38 := fun h0 => eb34 ▸ hv31.lt h0
      have hv37 := BytesAt.upd hv31 hub34 (fun h0 => Nat.ne_of_lt (hvl38 h0))
      have hvl40 := fun h0 => eb34 ▸ hv32.lt h0
      have hv39 := BytesAt.upd hv32 hub34 (fun h0 => Nat.ne_of_lt (hvl40 h0))
      have hB41 := Upd.below hB33 (by rw [eb34]; exact hB33.size) hub34
      have hgeb34 : w.heap.size ≤ b34 := by rw [eb34]; exact hB33.size
      refine WL.stL rfl rfl hkb34 isz27 rfl rfl (fun w42 hkw42 huw42 hsw42 => ?_)
      have hk43 := hk35.upd huw42 (by ((try simp only) <;> omega))
      have hv44 := BytesAt.upd hv37 huw42 (fun h0 => Nat.ne_of_lt (hvl38 h0))
      have hv45 := BytesAt.upd hv39 huw42 (fun h0 => Nat.ne_of_lt (hvl40 h0))
      have hB46 := Upd.below hB41 (by omega) huw42
      refine WL.p (.as rfl) rfl <| WL.p (.as rfl) rfl <| WL.nil <| ?_
      refine W.seq ?_
      refine W.seq ?_
      refine W.reg ?_ -- 10
      refine WL.r (Rd.ldA rfl hk43 Tryd.underlying27 rfl isz27) rfl <| WL.r (Rd.ldA rfl hkw42 Tryd.underlying27 rfl isz27) rfl <| WL.p (.bis (false) (.neAgg rfl rfl eg27 (neA27 _ _ _ _ _ _)) (by simp)) rfl <| WL.p (.mv rfl) rfl <| WL.gy rfl rfl rfl rfl <| WL.p (.mv rfl) rfl <| WL.gy rfl rfl rfl rfl <| WL.p (.mv rfl) rfl <| WL.gy rfl rfl rfl rfl <| WL.p (.bis (false) (.neq rfl rfl) (by simp)) rfl <| WL.p (.pkF rfl rfl rfl) rfl <| WL.p (.mv rfl) rfl <| WL.gy rfl rfl rfl rfl <| WL.p (.mv rfl) rfl <| WL.gy rfl rfl rfl rfl <| WL.p (.mv rfl) rfl <| WL.gy rfl rfl rfl rfl <| WL.p (.bis (false) (.neq rfl rfl) (by simp)) rfl <| WL.p (.pkF rfl rfl rfl) rfl <| WL.nil <| ?_
      refine W.condF rfl rfl ?_
      refine W.skip ?_
      refine W.seq ?_
      refine W.cutB 58 ((!decide (R.e = 0) || decide (R.k = 0))) ?_ ?_
      · skip
        refine W.reg ?_ -- 12
        refine WL.p (.mv rfl) rfl <| WL.p (.neq rfl rfl) rfl <| WL.p (.mv rfl) rfl <| WL.gd rfl rfl rfl (fun g47 => ?_) (fun g47 => ?_)
        · have g47' := ndF g47
          refine WL.p (.fa Tryd.underlying27 rfl Tryd.sizeOf3 (by decide) rfl) rfl <| WL.gy rfl rfl rfl g47 <| WL.r (Rd.ld (Tryd.isAgg3 _) rfl hk43 rfl) rfl <| WL.gy rfl rfl rfl g47 <| WL.p (.eql rfl rfl) rfl <| WL.p (.pkF rfl g47 rfl) rfl <| WL.nil <| ?_
          exact ⟨⟨lk_b rfl (by simp_all), by repeat (first | exact Le.refl _ | refine Le.cons rfl ?_)⟩, rfl⟩
        · have g47' := ndT g47
          refine WL.gn rfl rfl rfl g47 <| WL.gn rfl rfl rfl g47 <| WL.p (.pkT rfl g47 rfl) rfl <| WL.nil <| ?_
          exact ⟨⟨lk_b rfl (by simp_all), by repeat (first | exact Le.refl _ | refine Le.cons rfl ?_)⟩, rfl⟩
      refine W.cond rfl (fun h48 => ?_) (fun h48 => ?_) -- slot 58
      · have h48' := h48
        have hq : R.e ≠ 0 ∨ R.k = 0 := by simpa using (show (!decide (R.e = 0) || decide (R.k = 0)) = true by assumption)
        refine W.seq ?_
        refine W.reg ?_ -- 13
        refine WL.c1 hb23 rfl rfl ((answers04 _)) (fun w49 hw49 => ?_)
        have hk50 := hk43.below hw49 hk43.lt
        have hk51 := hkw42.below hw49 hkw42.lt
        have hv52 := BytesAt.below hv44 hw49 (fun h0 => hv44.lt h0)
        have hv53 := BytesAt.below hv45 hw49 (fun h0 => hv45.lt h0)
        have hB54 := btr hB46 hw49
        refine WL.p (.mv rfl) rfl <| WL.gy rfl rfl rfl rfl <| WL.p (.mv rfl) rfl <| WL.gy rfl rfl rfl rfl <| WL.p (.mv rfl) rfl <| WL.gy rfl rfl rfl rfl <| WL.c1 hb26 rfl rfl ((ref_Same_same _ l _ _ _ _ hv53 hv52 (by omega))) (fun w55 hw55 => ?_)
        have hk56 := hk50.drew hw55
        have hk57 := hk51.drew hw55
        have hv58 := hv52.drew hw55
        have hv59 := hv53.drew hw55
        have hB60 := Drew.below hB54 hw55
        refine WL.p (.pkT rfl rfl rfl) rfl <| WL.p (.mv rfl) rfl <| WL.gy rfl rfl rfl rfl <| WL.p (.mv rfl) rfl <| WL.gy rfl rfl rfl rfl <| WL.p (.neq rfl rfl) rfl <| WL.gy rfl rfl rfl rfl <| WL.p (.mv rfl) rfl <| WL.gd rfl rfl rfl (fun g61 => ?_) (fun g61 => ?_)
        · have g61' := ndF g61
          refine WL.p (.mv rfl) rfl <| WL.gy rfl rfl rfl g61 <| WL.p (.mv rfl) rfl <| WL.gy rfl rfl rfl g61 <| WL.p (.lenS Tryd.underlying32 rfl) rfl <| WL.gy rfl rfl rfl g61 <| WL.p (.bis (true) (.eql rfl rfl) (by exact decide_eq_true (by omega))) rfl <| WL.gy rfl rfl rfl rfl <| WL.p (.pkF rfl g61 rfl) rfl <| WL.p (.pkT rfl rfl rfl) rfl <| WL.p (.as rfl) rfl <| WL.nil <| ?_
          refine W.ret (W.ret1 rfl rfl ?_)
          first
          | (exfalso; omega)
          | exact ⟨rfl, hB60⟩
        · have g61' := ndT g61
          refine WL.gn rfl rfl rfl g61 <| WL.gn rfl rfl rfl g61 <| WL.gn rfl rfl rfl g61 <| WL.gy rfl rfl rfl rfl <| WL.p (.pkT rfl g61 rfl) rfl <| WL.p (.pkT rfl rfl rfl) rfl <| WL.p (.as rfl) rfl <| WL.nil <| ?_
          refine W.ret (W.ret1 rfl rfl ?_)
          first
          | (exfalso; omega)
          | exact ⟨rfl, hB60⟩
      · have h48' := h48
        have hq : R.e = 0 ∧ R.k ≠ 0 := by simpa using (show (!decide (R.e = 0) || decide (R.k = 0)) = false by assumption)
        refine W.skip ?_
        refine W.seq ?_
        refine W.seq ?_
        refine W.reg ?_ -- 14
        refine WL.p (.mv rfl) rfl <| WL.p (.mv rfl) rfl <| WL.p (.leq rfl rfl) rfl <| WL.nil <| ?_
        refine W.cond rfl (fun h62 => ?_) (fun h62 => ?_) -- slot 77
        · have h62' := of_decide_eq_true h62
          exfalso; omega
        · have h62' := of_decide_eq_false h62
          refine W.skip ?_
          refine W.reg ?_ -- 16
          refine WL.p (.mv rfl) rfl <| WL.p (.as rfl) rfl <| WL.nil <| ?_
          refine W.reg ?_ -- 7
          refine WL.p (.mv rfl) rfl <| WL.p (.iis (((i + 1 : Nat) : Int)) (.add rfl rfl (i64w (by omega))) (by omega)) rfl <| WL.p (.as rfl) rfl <| WL.nil <| ?_
          exact ⟨(i + 1, R.at'.toNat), ⟨rfl, rfl, lk_i rfl (by ((try simp only) <;> omega)), rfl, trivial⟩, ⟨hB46, hv44, hv45, by ((try simp only) <;> omega), by ((try simp only) <;> omega)⟩, by ((try simp only) <;> omega)⟩
    · have h14' := of_decide_eq_false h14
      refine W.exit ?_ -- 0
      refine W.seq ?_
      refine W.reg ?_ -- 17
      refine WL.p (.as rfl) rfl <| WL.nil <| ?_
      refine W.ret (W.ret1 rfl rfl ?_)
      first
      | (exfalso; omega)
      | exact ⟨rfl, hT⟩

end Go.Proofs.YteaohajihhpnmaaDoor
