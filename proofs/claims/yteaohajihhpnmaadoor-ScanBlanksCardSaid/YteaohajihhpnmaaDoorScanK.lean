/-
  Scan: the laws ScanNested and ScanStrings, walked.
-/
import Derived.Test.YteaohajihhpnmaaDoorScanU
import Derived.Test.YteaohajihhpnmaaDoorScanL
import Derived.Test.YteaohajihhpnmaaDoorFwG
namespace Go.Proofs.YteaohajihhpnmaaDoor
open Go.RowKit

theorem u8_wf {a : Int} (h : (Lit.int .u8 a).wf = true) : 0 ≤ a ∧ a ≤ 255 := by
  simp only [Lit.wf, Bool.and_eq_true, decide_eq_true_eq] at h
  exact h
theorem law_ScanNested (a : Int) (o : Bool) (w : World) (ha : (Lit.int .u8 a).wf = true) :
    Calls Tryd.prog 11 #[.int .u8 a, .bool o] w fun e w' => e = .returned (.bool true) ∧ Below w.heap.size w w' := by
  have ha2 := u8_wf ha
  obtain ⟨k, rfl⟩ := Int.eq_ofNat_of_zero_le ha2.1
  refine W.enter Tryd.func11 rfl Tryd.ntmps11 (Nat.le_of_ble_eq_true rfl) ?_
  have hB0 := Below.refl (w.heap.size) w
  refine W.seq ?_
  refine W.reg ?_ -- 0
  refine WL.p (.as rfl) rfl <| WL.nil <| ?_
  refine W.seq ?_
  refine W.reg ?_ -- 1
  refine WL.p (.as rfl) rfl <| WL.nil <| ?_
  refine W.seq ?_
  refine W.seq ?_
  refine W.reg ?_ -- 2
  refine WL.p (.as rfl) rfl <| WL.nil <| ?_
  refine W.block ?_
  -- loop 1: writes [5, 6, 11, 12, 13, 14, 15, 16, 17, 18, 19]; reads from outside [0, 5, 6]
  refine W.loop (α := Nat) (fun t => [(0, .int .u8 (k : Int)), (1, .bool o), (5, .string (bs (nest t))), (6, .int .i64 (t : Int))]) (fun t w' => w = w' ∧ t ≤ k) (fun t => k - t) (0) ⟨rfl, rfl, rfl, rfl, trivial⟩ (⟨rfl, Nat.zero_le _⟩) (fun t w1 hR => ?_)
  obtain ⟨s, rfl⟩ : ∃ s, s = t := ⟨t, rfl⟩
  obtain ⟨rfl, hs⟩ := hR
  have hnl := nest_len s
  refine W.seq ?_
  refine W.seq ?_
  refine W.reg ?_ -- 3
  refine WL.p (.mv rfl) rfl <| WL.p (.mv rfl) rfl <| WL.p (.cvt Tryd.underlying5 Tryd.underlying3 rfl (i64w (by omega))) rfl <| WL.p (.lss rfl rfl) rfl <| WL.nil <| ?_
  refine W.cond rfl (fun h1 => ?_) (fun h1 => ?_) -- slot 14
  · have h1' := of_decide_eq_true h1
    refine W.skip ?_
    refine W.seq ?_
    refine W.block ?_
    refine W.reg ?_ -- 5
    refine WL.p (.mv rfl) rfl <| WL.p (.cat rfl rfl (by simp only [List.length_append, List.length_cons, List.length_nil, hnl]; omega)) rfl <| WL.p (.sis (nest (s + 1)) (.cat rfl rfl (by simp only [List.length_append, List.length_cons, List.length_nil, hnl]; omega)) (by rfl)) rfl <| WL.p (.as rfl) rfl <| WL.nil <| ?_
    refine W.reg ?_ -- 4
    refine WL.p (.mv rfl) rfl <| WL.p (.iis (((s + 1 : Nat) : Int)) (.add rfl rfl (i64w (by omega))) (by omega)) rfl <| WL.p (.as rfl) rfl <| WL.nil <| ?_
    exact ⟨s + 1, ⟨rfl, rfl, rfl, rfl, trivial⟩, ⟨rfl, by omega⟩, by omega⟩
  · have h1' := of_decide_eq_false h1
    refine W.exit ?_ -- 0
    refine W.seq ?_
    obtain rfl : s = k := by omega
    refine W.reg ?_ -- 6
    refine WL.p (.mv rfl) rfl <| WL.p (.cat rfl rfl (by simp only [List.length_append, List.length_cons, List.length_nil, hnl]; omega)) rfl <| WL.p (.sis (40 :: (nest s ++ [41])) (.cat rfl rfl (by simp only [List.length_append, List.length_cons, List.length_nil, hnl]; omega)) (by rfl)) rfl <| WL.p (.as rfl) rfl <| WL.nil <| ?_
    refine W.seq ?_
    refine W.seq ?_
    refine W.reg ?_ -- 7
    refine WL.p (.mv rfl) rfl <| WL.nil <| ?_
    refine W.cond rfl (fun h2 => ?_) (fun h2 => ?_) -- slot 23
    · skip
      refine W.reg ?_ -- 8
      refine WL.p (.mv rfl) rfl <| WL.p (.cat rfl rfl (by simp only [List.length_append, List.length_cons, List.length_nil, hnl]; omega)) rfl <| WL.p (.sis (40 :: 40 :: (nest s ++ [41])) (.cat rfl rfl (by simp only [List.length_append, List.length_cons, List.length_nil, hnl]; omega)) (by rfl)) rfl <| WL.p (.as rfl) rfl <| WL.nil <| ?_
      refine W.seq ?_
      refine W.reg ?_ -- 9
      refine WL.p (.mv rfl) rfl <| WL.s2b Tryd.underlying9 Tryd.underlying32 Tryd.underlying5 rfl rfl (fun b3 wb3 cs29 eb3 hs29 hcs29 hub3 hsb3 => ?_)
      have hB4 := Upd.below hB0 (by rw [eb3]; exact hB0.size) hub3
      have hgeb3 : w.heap.size ≤ b3 := by rw [eb3]; exact hB0.size
      refine WL.c1 hb24 rfl rfl ((scan_Next 0 _ _ _ _ hs29 hcs29 (by simp only [List.length_append, List.length_cons, List.length_nil, hnl]; omega))) (fun w5 hw5 => ?_)
      have hv6 := BytesAt.below hs29 hw5 (fun h0 => hs29.lt h0)
      have hB7 := btr hB4 hw5
      first | rw [nested_open s] | rw [nested_ok s (by omega)]
      refine WL.p (.mv rfl) rfl <| WL.p (.ext rfl rfl) rfl <| WL.p (.ext rfl rfl) rfl <| WL.p (.ext rfl rfl) rfl <| WL.alloc Tryd.zeroValue27 rfl (fun b8 wb8 eb8 hkb8 hub8 hsb8 => ?_)
      have hvl10 := fun h0 => eb8 ▸ hv6.lt h0
      have hv9 := BytesAt.upd hv6 hub8 (fun h0 => Nat.ne_of_lt (hvl10 h0))
      have hB11 := Upd.below hB7 (by rw [eb8]; exact hB7.size) hub8
      have hgeb8 : w.heap.size ≤ b8 := by rw [eb8]; exact hB7.size
      refine WL.stL rfl rfl hkb8 isz27 rfl rfl (fun w12 hkw12 huw12 hsw12 => ?_)
      have hv13 := BytesAt.upd hv9 huw12 (fun h0 => Nat.ne_of_lt (hvl10 h0))
      have hB14 := Upd.below hB11 (by omega) huw12
      refine WL.p (.as rfl) rfl <| WL.p (.as rfl) rfl <| WL.nil <| ?_
      refine W.seq ?_
      refine W.seq ?_
      refine W.reg ?_ -- 10
      refine WL.p (.mv rfl) rfl <| WL.nil <| ?_
      refine W.condT rfl h2 ?_
      refine W.seq ?_
      refine W.reg ?_ -- 11
      refine WL.c1 hb23 rfl rfl ((answers04 _)) (fun w15 hw15 => ?_)
      have hk16 := hkw12.below hw15 hkw12.lt
      have hv17 := BytesAt.below hv13 hw15 (fun h0 => hv13.lt h0)
      have hB18 := btr hB14 hw15
      refine WL.p (.mv rfl) rfl <| WL.gy rfl rfl rfl rfl <| WL.p (.mv rfl) rfl <| WL.gy rfl rfl rfl rfl <| WL.p (.bis (true) (.eql rfl rfl) (by rfl)) rfl <| WL.p (.pkT rfl rfl rfl) rfl <| WL.p (.mv rfl) rfl <| WL.gy rfl rfl rfl rfl <| WL.p (.mv rfl) rfl <| WL.gy rfl rfl rfl rfl <| WL.p (.bis (true) (.eql rfl rfl) (by rfl)) rfl <| WL.p (.pkT rfl rfl rfl) rfl <| WL.p (.as rfl) rfl <| WL.nil <| ?_
      refine W.ret (W.ret1 rfl rfl ?_)
      exact ⟨rfl, hB18⟩
    · skip
      refine W.skip ?_
      refine W.seq ?_
      refine W.reg ?_ -- 9
      refine WL.p (.mv rfl) rfl <| WL.s2b Tryd.underlying9 Tryd.underlying32 Tryd.underlying5 rfl rfl (fun b19 wb19 cs29 eb19 hs29 hcs29 hub19 hsb19 => ?_)
      have hB20 := Upd.below hB0 (by rw [eb19]; exact hB0.size) hub19
      have hgeb19 : w.heap.size ≤ b19 := by rw [eb19]; exact hB0.size
      refine WL.c1 hb24 rfl rfl ((scan_Next 0 _ _ _ _ hs29 hcs29 (by simp only [List.length_append, List.length_cons, List.length_nil, hnl]; omega))) (fun w21 hw21 => ?_)
      have hv22 := BytesAt.below hs29 hw21 (fun h0 => hs29.lt h0)
      have hB23 := btr hB20 hw21
      first | rw [nested_open s] | rw [nested_ok s (by omega)]
      refine WL.p (.mv rfl) rfl <| WL.p (.ext rfl rfl) rfl <| WL.p (.ext rfl rfl) rfl <| WL.p (.ext rfl rfl) rfl <| WL.alloc Tryd.zeroValue27 rfl (fun b24 wb24 eb24 hkb24 hub24 hsb24 => ?_)
      have hvl26 := fun h0 => eb24 ▸ hv22.lt h0
      have hv25 := BytesAt.upd hv22 hub24 (fun h0 => Nat.ne_of_lt (hvl26 h0))
      have hB27 := Upd.below hB23 (by rw [eb24]; exact hB23.size) hub24
      have hgeb24 : w.heap.size ≤ b24 := by rw [eb24]; exact hB23.size
      refine WL.stL rfl rfl hkb24 isz27 rfl rfl (fun w28 hkw28 huw28 hsw28 => ?_)
      have hv29 := BytesAt.upd hv25 huw28 (fun h0 => Nat.ne_of_lt (hvl26 h0))
      have hB30 := Upd.below hB27 (by omega) huw28
      refine WL.p (.as rfl) rfl <| WL.p (.as rfl) rfl <| WL.nil <| ?_
      refine W.seq ?_
      refine W.seq ?_
      refine W.reg ?_ -- 10
      refine WL.p (.mv rfl) rfl <| WL.nil <| ?_
      refine W.condF rfl h2 ?_
      refine W.skip ?_
      refine W.seq ?_
      refine W.reg ?_ -- 12
      refine WL.c1 hb23 rfl rfl ((answers04 _)) (fun w31 hw31 => ?_)
      have hk32 := hkw28.below hw31 hkw28.lt
      have hv33 := BytesAt.below hv29 hw31 (fun h0 => hv29.lt h0)
      have hB34 := btr hB30 hw31
      refine WL.p (.mv rfl) rfl <| WL.gy rfl rfl rfl rfl <| WL.p (.mv rfl) rfl <| WL.gy rfl rfl rfl rfl <| WL.p (.bis (true) (.eql rfl rfl) (by rfl)) rfl <| WL.p (.pkT rfl rfl rfl) rfl <| WL.p (.mv rfl) rfl <| WL.gy rfl rfl rfl rfl <| WL.p (.mv rfl) rfl <| WL.gy rfl rfl rfl rfl <| WL.p (.mv rfl) rfl <| WL.gy rfl rfl rfl rfl <| WL.p (.len Tryd.underlying9 rfl) rfl <| WL.gy rfl rfl rfl rfl <| WL.p (.bis (true) (.eql rfl rfl) (by simp [hnl]; omega)) rfl <| WL.p (.pkT rfl rfl rfl) rfl <| WL.p (.mv rfl) rfl <| WL.gy rfl rfl rfl rfl <| WL.p (.fa Tryd.underlying27 rfl Tryd.sizeOf9 (by decide) rfl) rfl <| WL.gy rfl rfl rfl rfl <| WL.r (Rd.ld (Tryd.isAgg9 _) rfl hk32 rfl) rfl <| WL.gy rfl rfl rfl rfl <| WL.p (.mv rfl) rfl <| WL.gy rfl rfl rfl rfl <| WL.p (.bis (true) (.eqs rfl rfl) (by simp)) rfl <| WL.p (.pkT rfl rfl rfl) rfl <| WL.p (.as rfl) rfl <| WL.nil <| ?_
      refine W.ret (W.ret1 rfl rfl ?_)
      exact ⟨rfl, hB34⟩

theorem octE_vals (x : UInt8) : #[Value.int .u8 92, .int .u8 (48 + (x.toNat : Int) / 64), .int .u8 (48 + (x.toNat : Int) / 8 % 8), .int .u8 (48 + (x.toNat : Int) % 8)] = (byteVals (octE x)).toArray := by
  have hx : x.toNat < 256 := UInt8.toNat_lt x
  simp only [octE, byteVals, List.map_cons, List.map_nil, ch_val (48 + (x.toNat : Int) / 64) (by omega) (by omega), ch_val (48 + (x.toNat : Int) / 8 % 8) (by omega) (by omega), ch_val (48 + (x.toNat : Int) % 8) (by omega) (by omega)]
  rfl
theorem ref_escaped (b : Bool) (p : Option Addr) (l : List UInt8) (c : Nat) (w : World) (hb : BytesAt w p l) (hl : l.length ≤ 10000) :
    Calls Tryd.prog 27 #[.slice p l.length c, .bool b] w fun e w' => e = .returned (.string (bs (roundT b l))) ∧ Below w.heap.size w w' := by
  refine W.enter Tryd.func27 rfl Tryd.ntmps27 (Nat.le_of_ble_eq_true rfl) ?_
  have hB0 := Below.refl (w.heap.size) w
  refine W.seq ?_
  refine W.reg ?_ -- 0
  refine WL.p (.as rfl) rfl <| WL.nil <| ?_
  refine W.seq ?_
  refine W.reg ?_ -- 1
  refine WL.bsl (ps := _) Tryd.underlying32 Tryd.sizeOf5 Tryd.zeroValue5 rfl rfl rfl rfl rfl (by simp only [put1, List.map, List.zip, List.zipWith, List.set, List.replicate] <;> rfl) rfl (fun b1 wb1 eb1 hkb1 hub1 hsb1 => ?_)
  have hvl3 := fun h0 => eb1 ▸ hb.lt h0
  have hv2 := BytesAt.upd hb hub1 (fun h0 => Nat.ne_of_lt (hvl3 h0))
  have hB4 := Upd.below hB0 (by rw [eb1]; exact hB0.size) hub1
  have hgeb1 : w.heap.size ≤ b1 := by rw [eb1]; exact hB0.size
  have ho5 := Own.lit (m := 1) hkb1 rfl (by unfold maxLen; omega)
  have hle6 : b1 ≤ wb1.heap.size := by omega
  have ho5x : Own _ _ _ _ (byteVals [40]) := ho5
  refine WL.p (.as rfl) rfl <| WL.nil <| ?_
  refine W.seq ?_
  refine W.seq ?_
  refine W.reg ?_ -- 2
  refine WL.p (.as rfl) rfl <| WL.nil <| ?_
  refine W.block ?_
  -- loop 1: writes [5, 6, 7, 9, 10, 11, 12, 13, 14, 15, 16, 17, 18, 19, 20, 21, 22, 23, 24, 25, 26, 27, 28, 29, 30, 31, 32, 33, 34, 35, 36, 37, 38, 39, 40, 41, 42, 43, 44, 45, 46, 47, 48, 49, 50, 51, 52]; reads from outside [0, 1, 5, 6]
  refine W.loop (α := Value × Nat) (fun t => [(0, .slice p l.length c), (1, .bool b), (5, t.1), (6, .int .i64 (t.2 : Int))]) (fun t w' => Below w.heap.size w w' ∧ BytesAt w' p l ∧ Own 5 b1 w' t.1 (byteVals (40 :: escT b (l.take t.2))) ∧ t.2 ≤ l.length ∧ b1 ≤ w'.heap.size) (fun t => l.length - t.2) ((_, 0)) ⟨rfl, rfl, rfl, rfl, trivial⟩ (⟨hB4, hv2, ho5x, Nat.zero_le _, hle6⟩) (fun t w1 hR => ?_)
  obtain ⟨v, s⟩ := t
  obtain ⟨hT, ha2, hown, hs, hle0⟩ := hR
  simp only at hs hown ⊢
  have hal : 0 < l.length → (pA p).block < b1 := fun h0 => by have := hb.lt h0; omega
  refine W.seq ?_
  refine W.seq ?_
  refine W.reg ?_ -- 3
  refine WL.p (.mv rfl) rfl <| WL.p (.mv rfl) rfl <| WL.p (.lenS Tryd.underlying32 rfl) rfl <| WL.p (.lss rfl rfl) rfl <| WL.nil <| ?_
  refine W.cond rfl (fun h7 => ?_) (fun h7 => ?_) -- slot 12
  · have h7' := of_decide_eq_true h7
    refine W.skip ?_
    refine W.seq ?_
    refine W.block ?_
    refine W.seq ?_
    have hlt : s < l.length := by omega
    obtain ⟨x, hx⟩ : ∃ x, x = l[s]'hlt := ⟨_, rfl⟩
    have hst : 40 :: escT b (l.take (s + 1)) = (40 :: escT b (l.take s)) ++ escE b x := by rw [List.take_add_one, List.getElem?_eq_getElem hlt, ← hx, Option.toList_some, escT_snoc]; rfl
    have hsl := escT_len b (l.take s)
    have htl : (l.take s).length ≤ l.length := by simp; omega
    have hx256 : x.toNat < 256 := UInt8.toNat_lt x
    have hel : (octE x).length = 4 := rfl
    refine W.reg ?_ -- 5
    refine WL.p (.mv rfl) rfl <| WL.p (.mv rfl) rfl <| WL.p (.ixb Tryd.underlying32 Tryd.sizeOf5 rfl rfl (ha2.isp (by omega)) (s) (by omega) (by omega)) rfl <| WL.r (Rd.iis ((x.toNat : Int)) (Rd.ldc (Tryd.isAgg5 _) rfl (ha2.cells (s) (by omega))) (by rw [hx])) rfl <| WL.p (.as rfl) rfl <| WL.nil <| ?_
    refine W.cutB 35 (b && plainB x) ?_ ?_
    · skip
      refine W.reg ?_ -- 6
      refine WL.p (.mv rfl) rfl <| WL.p (.mv rfl) rfl <| WL.gd rfl rfl rfl (fun g8 => ?_) (fun g8 => ?_)
      · skip
        refine WL.p (.mv rfl) rfl <| WL.gy rfl rfl rfl g8 <| WL.p (.neq rfl rfl) rfl <| WL.p (.pkT rfl g8 rfl) rfl <| WL.p (.mv rfl) rfl <| WL.gd rfl rfl rfl (fun g9 => ?_) (fun g9 => ?_)
        · have g9' := ndT g9
          refine WL.p (.mv rfl) rfl <| WL.gy rfl rfl rfl g9 <| WL.p (.neq rfl rfl) rfl <| WL.p (.pkT rfl g9 rfl) rfl <| WL.p (.mv rfl) rfl <| WL.gd rfl rfl rfl (fun g10 => ?_) (fun g10 => ?_)
          · have g10' := ndT g10
            refine WL.p (.mv rfl) rfl <| WL.gy rfl rfl rfl g10 <| WL.p (.neq rfl rfl) rfl <| WL.p (.pkT rfl g10 rfl) rfl <| WL.p (.mv rfl) rfl <| WL.gd rfl rfl rfl (fun g11 => ?_) (fun g11 => ?_)
            · have g11' := ndT g11
              refine WL.p (.mv rfl) rfl <| WL.gy rfl rfl rfl g11 <| WL.p (.neq rfl rfl) rfl <| WL.p (.pkT rfl g11 rfl) rfl <| WL.nil <| ?_
              exact ⟨⟨lk_b rfl (by simp_all [plainB]), by repeat (first | exact Le.refl _ | refine Le.cons rfl ?_)⟩, rfl⟩
            · have g11' := ndF g11
              refine WL.gn rfl rfl rfl g11 <| WL.p (.pkF rfl g11 rfl) rfl <| WL.nil <| ?_
              exact ⟨⟨lk_b rfl (by simp_all [plainB]), by repeat (first | exact Le.refl _ | refine Le.cons rfl ?_)⟩, rfl⟩
          · have g10' := ndF g10
            refine WL.gn rfl rfl rfl g10 <| WL.p (.pkF rfl g10 rfl) rfl <| WL.p (.mv rfl) rfl <| WL.gn rfl rfl rfl rfl <| WL.gn rfl rfl rfl rfl <| WL.p (.pkF rfl rfl rfl) rfl <| WL.nil <| ?_
            exact ⟨⟨lk_b rfl (by simp_all [plainB]), by repeat (first | exact Le.refl _ | refine Le.cons rfl ?_)⟩, rfl⟩
        · have g9' := ndF g9
          refine WL.gn rfl rfl rfl g9 <| WL.p (.pkF rfl g9 rfl) rfl <| WL.p (.mv rfl) rfl <| WL.gn rfl rfl rfl rfl <| WL.gn rfl rfl rfl rfl <| WL.p (.pkF rfl rfl rfl) rfl <| WL.p (.mv rfl) rfl <| WL.gn rfl rfl rfl rfl <| WL.gn rfl rfl rfl rfl <| WL.p (.pkF rfl rfl rfl) rfl <| WL.nil <| ?_
          exact ⟨⟨lk_b rfl (by simp_all [plainB]), by repeat (first | exact Le.refl _ | refine Le.cons rfl ?_)⟩, rfl⟩
      · skip
        refine WL.gn rfl rfl rfl g8 <| WL.p (.pkF rfl g8 rfl) rfl <| WL.p (.mv rfl) rfl <| WL.gn rfl rfl rfl rfl <| WL.gn rfl rfl rfl rfl <| WL.p (.pkF rfl rfl rfl) rfl <| WL.p (.mv rfl) rfl <| WL.gn rfl rfl rfl rfl <| WL.gn rfl rfl rfl rfl <| WL.p (.pkF rfl rfl rfl) rfl <| WL.p (.mv rfl) rfl <| WL.gn rfl rfl rfl rfl <| WL.gn rfl rfl rfl rfl <| WL.p (.pkF rfl rfl rfl) rfl <| WL.nil <| ?_
        exact ⟨⟨lk_b rfl (by simp_all [plainB]), by repeat (first | exact Le.refl _ | refine Le.cons rfl ?_)⟩, rfl⟩
    refine W.cond rfl (fun h12 => ?_) (fun h12 => ?_) -- slot 35
    · have h12' := h12
      refine W.reg ?_ -- 7
      refine WL.p (.mv rfl) rfl <| WL.p (.mv rfl) rfl <| WL.bsl (ps := _) Tryd.underlying32 Tryd.sizeOf5 Tryd.zeroValue5 rfl rfl rfl rfl rfl (by simp only [put1, List.map, List.zip, List.zipWith, List.set, List.replicate] <;> rfl) rfl (fun b13 wb13 eb13 hkb13 hub13 hsb13 => ?_)
      have hle15 := Nat.le_trans hle0 hub13.size
      have ho14 := Own.new hown eb13 hub13
      have hvl17 := fun h0 => eb13 ▸ ha2.lt h0
      have hv16 := BytesAt.upd ha2 hub13 (fun h0 => Nat.ne_of_lt (hvl17 h0))
      have hB18 := Upd.below hT (by rw [eb13]; exact hT.size) hub13
      have hgeb13 : w.heap.size ≤ b13 := by rw [eb13]; exact hT.size
      refine WL.appm Tryd.underlying32 inf5 rfl rfl rfl ho14 rfl hkb13 rfl (by simp only [byteVals_len, List.length_cons]; omega) (hle15) rfl (fun v19 w20 how20 hbw20 hgw20 => ?_)
      have hv21 := BytesAt.below hv16 hbw20 hal
      have hB22 := Below.trans hB18 (hbw20.mono (hgeb1))
      have ho23 := Own.snoc how20 (x) (rfl)
      have hle24 := Nat.le_trans hle15 hbw20.size
      refine WL.p (.as rfl) rfl <| WL.nil <| ?_
      refine W.reg ?_ -- 4
      refine WL.p (.mv rfl) rfl <| WL.p (.iis (((s + 1 : Nat) : Int)) (.add rfl rfl (i64w (by omega))) (by omega)) rfl <| WL.p (.as rfl) rfl <| WL.nil <| ?_
      first
      | exact ⟨(_, s + 1), ⟨rfl, rfl, rfl, rfl, trivial⟩, ⟨hB22, hv21, (by rw [hst, show escE b x = [x] from if_pos (by assumption)]; exact ho23), by ((try simp only) <;> omega), hle24⟩, by ((try simp only) <;> omega)⟩
      | exact ⟨(_, s + 1), ⟨rfl, rfl, rfl, rfl, trivial⟩, ⟨hB22, hv21, (by rw [hst, show escE b x = octE x from if_neg (bF (by assumption))]; exact Own.cat ho23), by ((try simp only) <;> omega), hle24⟩, by ((try simp only) <;> omega)⟩
    · have h12' := h12
      refine W.reg ?_ -- 8
      refine WL.p (.mv rfl) rfl <| WL.p (.mv rfl) rfl <| WL.p (.quo rfl rfl (by omega) (u8q (by omega) (by omega) (by omega))) rfl <| WL.p (.add rfl rfl (u8w (by omega))) rfl <| WL.p (.mv rfl) rfl <| WL.p (.quo rfl rfl (by omega) (u8q (by omega) (by omega) (by omega))) rfl <| WL.p (.rem rfl rfl (by omega) (Int.tmod_eq_emod_of_nonneg (by omega))) rfl <| WL.p (.add rfl rfl (u8w (by omega))) rfl <| WL.p (.mv rfl) rfl <| WL.p (.rem rfl rfl (by omega) (Int.tmod_eq_emod_of_nonneg (by omega))) rfl <| WL.p (.add rfl rfl (u8w (by omega))) rfl <| WL.bsl (ps := _) Tryd.underlying32 Tryd.sizeOf5 Tryd.zeroValue5 rfl rfl rfl rfl rfl (by simp only [put1, List.map, List.zip, List.zipWith, List.set, List.replicate] <;> rfl) rfl (fun b25 wb25 eb25 hkb25 hub25 hsb25 => ?_)
      have hle27 := Nat.le_trans hle0 hub25.size
      have ho26 := Own.new hown eb25 hub25
      have hvl29 := fun h0 => eb25 ▸ ha2.lt h0
      have hv28 := BytesAt.upd ha2 hub25 (fun h0 => Nat.ne_of_lt (hvl29 h0))
      have hB30 := Upd.below hT (by rw [eb25]; exact hT.size) hub25
      have hgeb25 : w.heap.size ≤ b25 := by rw [eb25]; exact hT.size
      have he := BytesAt.lit (l := octE x) hkb25 (octE_vals x)
      refine WL.appB Tryd.underlying32 inf5 rfl rfl rfl ho26 rfl he (by simp only [byteVals_len, List.length_cons]; omega) (hle27) rfl (fun h => by cases h) (fun v31 w32 how32 hbw32 hgw32 => ?_)
      have hv33 := BytesAt.below hv28 hbw32 hal
      have hB34 := Below.trans hB30 (hbw32.mono (hgeb1))
      have hle35 := Nat.le_trans hle27 hbw32.size
      refine WL.p (.as rfl) rfl <| WL.nil <| ?_
      refine W.reg ?_ -- 4
      refine WL.p (.mv rfl) rfl <| WL.p (.iis (((s + 1 : Nat) : Int)) (.add rfl rfl (i64w (by omega))) (by omega)) rfl <| WL.p (.as rfl) rfl <| WL.nil <| ?_
      first
      | exact ⟨(_, s + 1), ⟨rfl, rfl, rfl, rfl, trivial⟩, ⟨hB34, hv33, (by rw [hst, show escE b x = [x] from if_pos (by assumption)]; exact how32), by ((try simp only) <;> omega), hle35⟩, by ((try simp only) <;> omega)⟩
      | exact ⟨(_, s + 1), ⟨rfl, rfl, rfl, rfl, trivial⟩, ⟨hB34, hv33, (by rw [hst, show escE b x = octE x from if_neg (bF (by assumption))]; exact Own.cat how32), by ((try simp only) <;> omega), hle35⟩, by ((try simp only) <;> omega)⟩
  · have h7' := of_decide_eq_false h7
    refine W.exit ?_ -- 0
    refine W.seq ?_
    obtain rfl : s = l.length := by omega
    rw [List.take_length] at hown
    have hsl := escT_len b l
    refine W.reg ?_ -- 9
    refine WL.p (.mv rfl) rfl <| WL.bsl (ps := _) Tryd.underlying32 Tryd.sizeOf5 Tryd.zeroValue5 rfl rfl rfl rfl rfl (by simp only [put1, List.map, List.zip, List.zipWith, List.set, List.replicate] <;> rfl) rfl (fun b36 wb36 eb36 hkb36 hub36 hsb36 => ?_)
    have hle38 := Nat.le_trans hle0 hub36.size
    have ho37 := Own.new hown eb36 hub36
    have hvl40 := fun h0 => eb36 ▸ ha2.lt h0
    have hv39 := BytesAt.upd ha2 hub36 (fun h0 => Nat.ne_of_lt (hvl40 h0))
    have hB41 := Upd.below hT (by rw [eb36]; exact hT.size) hub36
    have hgeb36 : w.heap.size ≤ b36 := by rw [eb36]; exact hT.size
    refine WL.appm Tryd.underlying32 inf5 rfl rfl rfl ho37 rfl hkb36 rfl (by simp only [byteVals_len, List.length_cons]; omega) (hle38) rfl (fun v42 w43 how43 hbw43 hgw43 => ?_)
    have hv44 := BytesAt.below hv39 hbw43 hal
    have hB45 := Below.trans hB41 (hbw43.mono (hgeb1))
    have ho46 := Own.snoc how43 (41) (rfl)
    have hle47 := Nat.le_trans hle38 hbw43.size
    obtain ⟨pz, cz, ez, hz, hBz, hcz, hnz⟩ := Own.bytesC (l := (40 :: escT b l ++ [41])) ho46
    subst ez
    refine WL.r (Rd.b2s (l := (40 :: escT b l ++ [41])) Tryd.underlying32 Tryd.underlying5 Tryd.underlying9 rfl (hz)) rfl <| WL.p (.as rfl) rfl <| WL.nil <| ?_
    refine W.ret (W.ret1 rfl rfl ?_)
    exact ⟨rfl, hB45⟩
theorem hexD_at (k : Nat) (hk : k < 22) : hexDigits[k]! = hexDigits[k]'hk := getElem!_pos hexDigits k hk
theorem hexE_vals (x : UInt8) : #[Value.int .u8 ((hexDigits[x.toNat / 16]'(by have := UInt8.toNat_lt x; show _ < 22; omega)).toNat : Int), .int .u8 ((hexDigits[x.toNat % 16]'(by show _ < 22; omega)).toNat : Int)] = (byteVals [hexDigits[x.toNat / 16]!, hexDigits[x.toNat % 16]!]).toArray := by
  have hx : x.toNat < 256 := UInt8.toNat_lt x
  rw [hexD_at _ (show x.toNat / 16 < 22 by omega), hexD_at _ (show x.toNat % 16 < 22 by omega)]
  rfl
theorem ref_hexed (p : Option Addr) (l : List UInt8) (c : Nat) (w : World) (hb : BytesAt w p l) (hl : l.length ≤ 10000) :
    Calls Tryd.prog 28 #[.slice p l.length c] w fun e w' => e = .returned (.string (bs (hexT l))) ∧ Below w.heap.size w w' := by
  refine W.enter Tryd.func28 rfl Tryd.ntmps28 (Nat.le_of_ble_eq_true rfl) ?_
  have hB0 := Below.refl (w.heap.size) w
  refine W.seq ?_
  refine W.reg ?_ -- 0
  refine WL.p (.as rfl) rfl <| WL.nil <| ?_
  refine W.seq ?_
  refine W.reg ?_ -- 1
  refine WL.p (.as rfl) rfl <| WL.nil <| ?_
  refine W.seq ?_
  refine W.reg ?_ -- 2
  refine WL.bsl (ps := _) Tryd.underlying32 Tryd.sizeOf5 Tryd.zeroValue5 rfl rfl rfl rfl rfl (by simp only [put1, List.map, List.zip, List.zipWith, List.set, List.replicate] <;> rfl) rfl (fun b1 wb1 eb1 hkb1 hub1 hsb1 => ?_)
  have hvl3 := fun h0 => eb1 ▸ hb.lt h0
  have hv2 := BytesAt.upd hb hub1 (fun h0 => Nat.ne_of_lt (hvl3 h0))
  have hB4 := Upd.below hB0 (by rw [eb1]; exact hB0.size) hub1
  have hgeb1 : w.heap.size ≤ b1 := by rw [eb1]; exact hB0.size
  have ho5 := Own.lit (m := 1) hkb1 rfl (by unfold maxLen; omega)
  have hle6 : b1 ≤ wb1.heap.size := by omega
  have ho5x : Own _ _ _ _ (byteVals [60]) := ho5
  refine WL.p (.as rfl) rfl <| WL.nil <| ?_
  refine W.seq ?_
  refine W.seq ?_
  refine W.reg ?_ -- 3
  refine WL.p (.as rfl) rfl <| WL.nil <| ?_
  refine W.block ?_
  -- loop 1: writes [4, 5, 7, 8, 9, 10, 11, 12, 13, 14, 15, 16, 17, 18, 19, 20, 21, 22, 23, 24, 25, 26, 27, 28, 29, 30, 31, 32, 33, 34, 35]; reads from outside [0, 3, 4, 5]
  refine W.loop (α := Value × Nat) (fun t => [(0, .slice p l.length c), (3, .string (bs hexDigits)), (4, t.1), (5, .int .i64 (t.2 : Int))]) (fun t w' => Below w.heap.size w w' ∧ BytesAt w' p l ∧ Own 5 b1 w' t.1 (byteVals (60 :: hexB 0 (l.take t.2))) ∧ t.2 ≤ l.length ∧ b1 ≤ w'.heap.size) (fun t => l.length - t.2) ((_, 0)) ⟨rfl, rfl, rfl, rfl, trivial⟩ (⟨hB4, hv2, ho5x, Nat.zero_le _, hle6⟩) (fun t w1 hR => ?_)
  obtain ⟨v, s⟩ := t
  obtain ⟨hT, ha2, hown, hs, hle0⟩ := hR
  simp only at hs hown ⊢
  have hal : 0 < l.length → (pA p).block < b1 := fun h0 => by have := hb.lt h0; omega
  refine W.seq ?_
  refine W.seq ?_
  refine W.reg ?_ -- 4
  refine WL.p (.mv rfl) rfl <| WL.p (.mv rfl) rfl <| WL.p (.lenS Tryd.underlying32 rfl) rfl <| WL.p (.lss rfl rfl) rfl <| WL.nil <| ?_
  refine W.cond rfl (fun h7 => ?_) (fun h7 => ?_) -- slot 10
  · have h7' := of_decide_eq_true h7
    refine W.skip ?_
    refine W.seq ?_
    refine W.block ?_
    refine W.seq ?_
    have hlt : s < l.length := by omega
    obtain ⟨x, hx⟩ : ∃ x, x = l[s]'hlt := ⟨_, rfl⟩
    have hst : 60 :: hexB 0 (l.take (s + 1)) = (60 :: hexB 0 (l.take s)) ++ ([hexDigits[x.toNat / 16]!, hexDigits[x.toNat % 16]!] ++ if s % 7 = 3 then [10] else []) := by
      rw [List.take_add_one, List.getElem?_eq_getElem hlt, ← hx, Option.toList_some, hexB_snoc, List.length_take, show 0 + min s l.length = s by omega]; rfl
    have hsl := hexB_len (l.take s) 0
    have htl : (l.take s).length ≤ l.length := by simp; omega
    have hx256 : x.toNat < 256 := UInt8.toNat_lt x
    have hxl : hexDigits.length = 22 := rfl
    refine W.regY 18 rfl mixed (fun w8 dw8 => ?_) -- 6
    have hle10 := Drew.le hle0 dw8
    have ho9 := Own.drew hown dw8
    have hv11 := ha2.drew dw8
    have hB12 := Drew.below hT dw8
    refine WY.take 0 rfl (by kernel_rfl) (by kernel_rfl) (by kernel_rfl) (fun c f w h => pn_post h) (.mv rfl) rfl ?_
    refine WY.take 1 rfl (by kernel_rfl) (by kernel_rfl) (by kernel_rfl) (fun c f w h => pn_post h) (.mv rfl) rfl ?_
    refine WY.take 2 rfl (by kernel_rfl) (by kernel_rfl) (by kernel_rfl) (fun c f w h => pn_post h) (.mv rfl) rfl ?_
    refine WY.take 3 rfl (by kernel_rfl) (by kernel_rfl) (by kernel_rfl) (fun c f w h => pn_post h) (.mv rfl) rfl ?_
    refine WY.take 4 rfl (by kernel_rfl) (by kernel_rfl) (by kernel_rfl) (fun c f w h => pn_post h) (.ixb Tryd.underlying32 Tryd.sizeOf5 rfl rfl (hv11.isp (by omega)) (s) (by omega) (by omega)) rfl ?_
    refine WY.take 8 rfl (by kernel_rfl) (by kernel_rfl) (by kernel_rfl) (fun c f w h => pn_post h) (.mv rfl) rfl ?_
    refine WY.take 9 rfl (by kernel_rfl) (by kernel_rfl) (by kernel_rfl) (fun c f w h => pn_post h) (.mv rfl) rfl ?_
    refine WY.take 10 rfl (by kernel_rfl) (by kernel_rfl) (by kernel_rfl) (fun c f w h => pn_post h) (.mv rfl) rfl ?_
    refine WY.take 11 rfl (by kernel_rfl) (by kernel_rfl) (by kernel_rfl) (fun c f w h => pn_post h) (.ixb Tryd.underlying32 Tryd.sizeOf5 rfl rfl (hv11.isp (by omega)) (s) (by omega) (by omega)) rfl ?_
    refine WY.br [5, 12] (by kernel_rfl) rfl ⟨⟨_, rfl, ?_⟩, ⟨_, rfl, ?_⟩, trivial⟩
    · skip
      refine WL.r (Rd.iis ((x.toNat : Int)) (Rd.ldc (Tryd.isAgg5 _) rfl (hv11.cells (s) (by omega))) (by rw [hx])) rfl <| WL.nil <| ?_
      refine WY.take 6 rfl (by kernel_rfl) (by kernel_rfl) (by kernel_rfl) (fun c f w h => pn_post h) (.quo (k := .u8) (a := (x.toNat : Int)) (b := 16) (r := (x.toNat : Int) / 16) rfl rfl (by decide) (u8q (by omega) (by omega) (by decide))) rfl ?_
      refine WY.take 7 rfl (by kernel_rfl) (by kernel_rfl) (by kernel_rfl) (fun c f w h => pn_post h) (.ixk (l := hexDigits) Tryd.underlying9 rfl rfl (x.toNat / 16) (by omega) (by omega)) rfl ?_
      refine WY.br [12] (by kernel_rfl) rfl ⟨⟨_, rfl, ?_⟩, trivial⟩
      · skip
        refine WL.r (Rd.iis ((x.toNat : Int)) (Rd.ldc (Tryd.isAgg5 _) rfl (hv11.cells (s) (by omega))) (by rw [hx])) rfl <| WL.nil <| ?_
        refine WY.take 13 rfl (by kernel_rfl) (by kernel_rfl) (by kernel_rfl) (fun c f w h => pn_post h) (.rem (k := .u8) (a := (x.toNat : Int)) (b := 16) (r := (x.toNat : Int) % 16) rfl rfl (by decide) (Int.tmod_eq_emod_of_nonneg (by omega))) rfl ?_
        refine WY.take 14 rfl (by kernel_rfl) (by kernel_rfl) (by kernel_rfl) (fun c f w h => pn_post h) (.ixk (l := hexDigits) Tryd.underlying9 rfl rfl (x.toNat % 16) (by omega) (by omega)) rfl ?_
        refine WY.br [15] (by kernel_rfl) rfl ⟨⟨_, rfl, ?_⟩, trivial⟩
        · skip
          refine WL.bsl (ps := _) Tryd.underlying32 Tryd.sizeOf5 Tryd.zeroValue5 rfl rfl rfl rfl rfl (by simp only [put1, List.map, List.zip, List.zipWith, List.set, List.replicate] <;> rfl) rfl (fun b13 wb13 eb13 hkb13 hub13 hsb13 => ?_)
          have hle15 := Nat.le_trans hle10 hub13.size
          have ho14 := Own.new ho9 eb13 hub13
          have hvl17 := fun h0 => eb13 ▸ hv11.lt h0
          have hv16 := BytesAt.upd hv11 hub13 (fun h0 => Nat.ne_of_lt (hvl17 h0))
          have hB18 := Upd.below hB12 (by rw [eb13]; exact hB12.size) hub13
          have hgeb13 : w.heap.size ≤ b13 := by rw [eb13]; exact hB12.size
          have he := BytesAt.lit (l := [hexDigits[x.toNat / 16]!, hexDigits[x.toNat % 16]!]) hkb13 (hexE_vals x)
          refine WL.nil <| ?_
          refine WY.br [16] (by kernel_rfl) rfl ⟨⟨_, rfl, ?_⟩, trivial⟩
          · skip
            refine WL.appB Tryd.underlying32 inf5 rfl rfl rfl ho14 rfl he (by simp only [byteVals_len, List.length_cons, List.length_nil]; omega) (hle15) rfl (fun h => by cases h) (fun v19 w20 how20 hbw20 hgw20 => ?_)
            have hv21 := BytesAt.below hv16 hbw20 hal
            have hB22 := Below.trans hB18 (hbw20.mono (hgeb1))
            have ho23 := Own.cat how20
            have hle24 := Nat.le_trans hle15 hbw20.size
            refine WL.nil <| ?_
            refine WY.take 17 rfl (by kernel_rfl) (by kernel_rfl) (by kernel_rfl) (fun c f w h => pn_post h) (.as rfl) rfl ?_
            refine WY.done (by kernel_rfl) ?_
            refine W.seq ?_
            refine W.reg ?_ -- 7
            refine WL.p (.mv rfl) rfl <| WL.p (.rem rfl rfl (by omega) (Int.tmod_eq_emod_of_nonneg (by omega))) rfl <| WL.p (.eql rfl rfl) rfl <| WL.nil <| ?_
            refine W.cond rfl (fun h25 => ?_) (fun h25 => ?_) -- slot 32
            · have h25' := of_decide_eq_true h25
              refine W.reg ?_ -- 8
              refine WL.p (.mv rfl) rfl <| WL.bsl (ps := _) Tryd.underlying32 Tryd.sizeOf5 Tryd.zeroValue5 rfl rfl rfl rfl rfl (by simp only [put1, List.map, List.zip, List.zipWith, List.set, List.replicate] <;> rfl) rfl (fun b26 wb26 eb26 hkb26 hub26 hsb26 => ?_)
              have hle28 := Nat.le_trans hle24 hub26.size
              have ho27 := Own.new ho23 eb26 hub26
              have hvl30 := fun h0 => eb26 ▸ hv21.lt h0
              have hv29 := BytesAt.upd hv21 hub26 (fun h0 => Nat.ne_of_lt (hvl30 h0))
              have hB31 := Upd.below hB22 (by rw [eb26]; exact hB22.size) hub26
              have hgeb26 : w.heap.size ≤ b26 := by rw [eb26]; exact hB22.size
              refine WL.appm Tryd.underlying32 inf5 rfl rfl rfl ho27 rfl hkb26 rfl (by simp only [byteVals_len, List.length_append, List.length_cons, List.length_nil]; omega) (hle28) rfl (fun v32 w33 how33 hbw33 hgw33 => ?_)
              have hv34 := BytesAt.below hv29 hbw33 hal
              have hB35 := Below.trans hB31 (hbw33.mono (hgeb1))
              have ho36 := Own.snoc how33 (10) (rfl)
              have hle37 := Nat.le_trans hle28 hbw33.size
              refine WL.p (.as rfl) rfl <| WL.nil <| ?_
              refine W.reg ?_ -- 5
              refine WL.p (.mv rfl) rfl <| WL.p (.iis (((s + 1 : Nat) : Int)) (.add rfl rfl (i64w (by omega))) (by omega)) rfl <| WL.p (.as rfl) rfl <| WL.nil <| ?_
              first
              | exact ⟨(_, s + 1), ⟨rfl, rfl, rfl, rfl, trivial⟩, ⟨hB35, hv34, (by rw [hst, if_pos (by omega), ← List.append_assoc]; exact ho36), by ((try simp only) <;> omega), hle37⟩, by ((try simp only) <;> omega)⟩
              | exact ⟨(_, s + 1), ⟨rfl, rfl, rfl, rfl, trivial⟩, ⟨hB35, hv34, (by rw [hst, if_neg (by omega), List.append_nil]; exact ho36), by ((try simp only) <;> omega), hle37⟩, by ((try simp only) <;> omega)⟩
            · have h25' := of_decide_eq_false h25
              refine W.skip ?_
              refine W.reg ?_ -- 5
              refine WL.p (.mv rfl) rfl <| WL.p (.iis (((s + 1 : Nat) : Int)) (.add rfl rfl (i64w (by omega))) (by omega)) rfl <| WL.p (.as rfl) rfl <| WL.nil <| ?_
              first
              | exact ⟨(_, s + 1), ⟨rfl, rfl, rfl, rfl, trivial⟩, ⟨hB22, hv21, (by rw [hst, if_pos (by omega), ← List.append_assoc]; exact ho23), by ((try simp only) <;> omega), hle24⟩, by ((try simp only) <;> omega)⟩
              | exact ⟨(_, s + 1), ⟨rfl, rfl, rfl, rfl, trivial⟩, ⟨hB22, hv21, (by rw [hst, if_neg (by omega), List.append_nil]; exact ho23), by ((try simp only) <;> omega), hle24⟩, by ((try simp only) <;> omega)⟩
    · skip
      refine WL.r (Rd.iis ((x.toNat : Int)) (Rd.ldc (Tryd.isAgg5 _) rfl (hv11.cells (s) (by omega))) (by rw [hx])) rfl <| WL.nil <| ?_
      refine WY.take 13 rfl (by kernel_rfl) (by kernel_rfl) (by kernel_rfl) (fun c f w h => pn_post h) (.rem (k := .u8) (a := (x.toNat : Int)) (b := 16) (r := (x.toNat : Int) % 16) rfl rfl (by decide) (Int.tmod_eq_emod_of_nonneg (by omega))) rfl ?_
      refine WY.take 14 rfl (by kernel_rfl) (by kernel_rfl) (by kernel_rfl) (fun c f w h => pn_post h) (.ixk (l := hexDigits) Tryd.underlying9 rfl rfl (x.toNat % 16) (by omega) (by omega)) rfl ?_
      refine WY.br [5] (by kernel_rfl) rfl ⟨⟨_, rfl, ?_⟩, trivial⟩
      · skip
        refine WL.r (Rd.iis ((x.toNat : Int)) (Rd.ldc (Tryd.isAgg5 _) rfl (hv11.cells (s) (by omega))) (by rw [hx])) rfl <| WL.nil <| ?_
        refine WY.take 6 rfl (by kernel_rfl) (by kernel_rfl) (by kernel_rfl) (fun c f w h => pn_post h) (.quo (k := .u8) (a := (x.toNat : Int)) (b := 16) (r := (x.toNat : Int) / 16) rfl rfl (by decide) (u8q (by omega) (by omega) (by decide))) rfl ?_
        refine WY.take 7 rfl (by kernel_rfl) (by kernel_rfl) (by kernel_rfl) (fun c f w h => pn_post h) (.ixk (l := hexDigits) Tryd.underlying9 rfl rfl (x.toNat / 16) (by omega) (by omega)) rfl ?_
        refine WY.br [15] (by kernel_rfl) rfl ⟨⟨_, rfl, ?_⟩, trivial⟩
        · skip
          refine WL.bsl (ps := _) Tryd.underlying32 Tryd.sizeOf5 Tryd.zeroValue5 rfl rfl rfl rfl rfl (by simp only [put1, List.map, List.zip, List.zipWith, List.set, List.replicate] <;> rfl) rfl (fun b38 wb38 eb38 hkb38 hub38 hsb38 => ?_)
          have hle40 := Nat.le_trans hle10 hub38.size
          have ho39 := Own.new ho9 eb38 hub38
          have hvl42 := fun h0 => eb38 ▸ hv11.lt h0
          have hv41 := BytesAt.upd hv11 hub38 (fun h0 => Nat.ne_of_lt (hvl42 h0))
          have hB43 := Upd.below hB12 (by rw [eb38]; exact hB12.size) hub38
          have hgeb38 : w.heap.size ≤ b38 := by rw [eb38]; exact hB12.size
          have he := BytesAt.lit (l := [hexDigits[x.toNat / 16]!, hexDigits[x.toNat % 16]!]) hkb38 (hexE_vals x)
          refine WL.nil <| ?_
          refine WY.br [16] (by kernel_rfl) rfl ⟨⟨_, rfl, ?_⟩, trivial⟩
          · skip
            refine WL.appB Tryd.underlying32 inf5 rfl rfl rfl ho39 rfl he (by simp only [byteVals_len, List.length_cons, List.length_nil]; omega) (hle40) rfl (fun h => by cases h) (fun v44 w45 how45 hbw45 hgw45 => ?_)
            have hv46 := BytesAt.below hv41 hbw45 hal
            have hB47 := Below.trans hB43 (hbw45.mono (hgeb1))
            have ho48 := Own.cat how45
            have hle49 := Nat.le_trans hle40 hbw45.size
            refine WL.nil <| ?_
            refine WY.take 17 rfl (by kernel_rfl) (by kernel_rfl) (by kernel_rfl) (fun c f w h => pn_post h) (.as rfl) rfl ?_
            refine WY.done (by kernel_rfl) ?_
            refine W.seq ?_
            refine W.reg ?_ -- 7
            refine WL.p (.mv rfl) rfl <| WL.p (.rem rfl rfl (by omega) (Int.tmod_eq_emod_of_nonneg (by omega))) rfl <| WL.p (.eql rfl rfl) rfl <| WL.nil <| ?_
            refine W.cond rfl (fun h50 => ?_) (fun h50 => ?_) -- slot 32
            · have h50' := of_decide_eq_true h50
              refine W.reg ?_ -- 8
              refine WL.p (.mv rfl) rfl <| WL.bsl (ps := _) Tryd.underlying32 Tryd.sizeOf5 Tryd.zeroValue5 rfl rfl rfl rfl rfl (by simp only [put1, List.map, List.zip, List.zipWith, List.set, List.replicate] <;> rfl) rfl (fun b51 wb51 eb51 hkb51 hub51 hsb51 => ?_)
              have hle53 := Nat.le_trans hle49 hub51.size
              have ho52 := Own.new ho48 eb51 hub51
              have hvl55 := fun h0 => eb51 ▸ hv46.lt h0
              have hv54 := BytesAt.upd hv46 hub51 (fun h0 => Nat.ne_of_lt (hvl55 h0))
              have hB56 := Upd.below hB47 (by rw [eb51]; exact hB47.size) hub51
              have hgeb51 : w.heap.size ≤ b51 := by rw [eb51]; exact hB47.size
              refine WL.appm Tryd.underlying32 inf5 rfl rfl rfl ho52 rfl hkb51 rfl (by simp only [byteVals_len, List.length_append, List.length_cons, List.length_nil]; omega) (hle53) rfl (fun v57 w58 how58 hbw58 hgw58 => ?_)
              have hv59 := BytesAt.below hv54 hbw58 hal
              have hB60 := Below.trans hB56 (hbw58.mono (hgeb1))
              have ho61 := Own.snoc how58 (10) (rfl)
              have hle62 := Nat.le_trans hle53 hbw58.size
              refine WL.p (.as rfl) rfl <| WL.nil <| ?_
              refine W.reg ?_ -- 5
              refine WL.p (.mv rfl) rfl <| WL.p (.iis (((s + 1 : Nat) : Int)) (.add rfl rfl (i64w (by omega))) (by omega)) rfl <| WL.p (.as rfl) rfl <| WL.nil <| ?_
              first
              | exact ⟨(_, s + 1), ⟨rfl, rfl, rfl, rfl, trivial⟩, ⟨hB60, hv59, (by rw [hst, if_pos (by omega), ← List.append_assoc]; exact ho61), by ((try simp only) <;> omega), hle62⟩, by ((try simp only) <;> omega)⟩
              | exact ⟨(_, s + 1), ⟨rfl, rfl, rfl, rfl, trivial⟩, ⟨hB60, hv59, (by rw [hst, if_neg (by omega), List.append_nil]; exact ho61), by ((try simp only) <;> omega), hle62⟩, by ((try simp only) <;> omega)⟩
            · have h50' := of_decide_eq_false h50
              refine W.skip ?_
              refine W.reg ?_ -- 5
              refine WL.p (.mv rfl) rfl <| WL.p (.iis (((s + 1 : Nat) : Int)) (.add rfl rfl (i64w (by omega))) (by omega)) rfl <| WL.p (.as rfl) rfl <| WL.nil <| ?_
              first
              | exact ⟨(_, s + 1), ⟨rfl, rfl, rfl, rfl, trivial⟩, ⟨hB47, hv46, (by rw [hst, if_pos (by omega), ← List.append_assoc]; exact ho48), by ((try simp only) <;> omega), hle49⟩, by ((try simp only) <;> omega)⟩
              | exact ⟨(_, s + 1), ⟨rfl, rfl, rfl, rfl, trivial⟩, ⟨hB47, hv46, (by rw [hst, if_neg (by omega), List.append_nil]; exact ho48), by ((try simp only) <;> omega), hle49⟩, by ((try simp only) <;> omega)⟩
  · have h7' := of_decide_eq_false h7
    refine W.exit ?_ -- 0
    refine W.seq ?_
    obtain rfl : s = l.length := by omega
    rw [List.take_length] at hown
    have hsl := hexB_len l 0
    refine W.reg ?_ -- 9
    refine WL.p (.mv rfl) rfl <| WL.bsl (ps := _) Tryd.underlying32 Tryd.sizeOf5 Tryd.zeroValue5 rfl rfl rfl rfl rfl (by simp only [put1, List.map, List.zip, List.zipWith, List.set, List.replicate] <;> rfl) rfl (fun b63 wb63 eb63 hkb63 hub63 hsb63 => ?_)
    have hle65 := Nat.le_trans hle0 hub63.size
    have ho64 := Own.new hown eb63 hub63
    have hvl67 := fun h0 => eb63 ▸ ha2.lt h0
    have hv66 := BytesAt.upd ha2 hub63 (fun h0 => Nat.ne_of_lt (hvl67 h0))
    have hB68 := Upd.below hT (by rw [eb63]; exact hT.size) hub63
    have hgeb63 : w.heap.size ≤ b63 := by rw [eb63]; exact hT.size
    refine WL.appm Tryd.underlying32 inf5 rfl rfl rfl ho64 rfl hkb63 rfl (by simp only [byteVals_len, List.length_cons]; omega) (hle65) rfl (fun v69 w70 how70 hbw70 hgw70 => ?_)
    have hv71 := BytesAt.below hv66 hbw70 hal
    have hB72 := Below.trans hB68 (hbw70.mono (hgeb1))
    have ho73 := Own.snoc how70 (62) (rfl)
    have hle74 := Nat.le_trans hle65 hbw70.size
    obtain ⟨pz, cz, ez, hz, hBz, hcz, hnz⟩ := Own.bytesC (l := (60 :: hexB 0 l ++ [62])) ho73
    subst ez
    refine WL.r (Rd.b2s (l := (60 :: hexB 0 l ++ [62])) Tryd.underlying32 Tryd.underlying5 Tryd.underlying9 rfl (hz)) rfl <| WL.p (.as rfl) rfl <| WL.nil <| ?_
    refine W.ret (W.ret1 rfl rfl ?_)
    exact ⟨rfl, hB72⟩

/-- the three ways of writing a string -/
def wayS (l : List UInt8) : List (List UInt8) := [roundT true l, roundT false l, hexT l]
theorem way_ok (l m : List UInt8) (hl : l.length ≤ 10000) (i : Nat) (hi : i < 3) : nextR ((wayS l)[i]'hi ++ m) 0 = ⟨6, 0, l, (((wayS l)[i]'hi).length : Nat), 0⟩ ∧ nextR (((wayS l)[i]'hi).dropLast) 0 = ⟨0, 0, [], 0, 14⟩ ∧ 1 ≤ ((wayS l)[i]'hi).length ∧ ((wayS l)[i]'hi).length ≤ 100000 := by
  have h1 := escT_len true l; have h2 := escT_len false l; have h3 := hexB_len l 0
  match i, hi with
  | 0, _ => exact ⟨roundT_ok true l m hl, roundT_cut true l, by simp [wayS, roundT], by simp [wayS, roundT]; omega⟩
  | 1, _ => exact ⟨roundT_ok false l m hl, roundT_cut false l, by simp [wayS, roundT], by simp [wayS, roundT]; omega⟩
  | 2, _ => exact ⟨hexT_ok l m hl, hexT_cut l, by simp [wayS, hexT], by simp [wayS, hexT]; omega⟩
theorem cut_bytes {w : World} {p : Option Addr} {W v : List UInt8} {c : Nat} (h : BytesAt w p (W ++ v)) (hc : (W ++ v).length ≤ c) : BytesAt w (pPart p c 0) W.dropLast := by
  have h1 := h.part (c := c) (a := 0) (b := W.dropLast.length) (Nat.zero_le _) (by simp; omega) hc
  have e : ((W ++ v).drop 0).take (W.dropLast.length - 0) = W.dropLast := by
    rw [List.drop_zero, Nat.sub_zero, List.take_append_of_le_length (by simp), List.dropLast_eq_take, List.length_take]
    rw [show min (W.length - 1) W.length = W.length - 1 by omega]
  rw [e] at h1; exact h1
theorem law_ScanStrings (p : Option Addr) (l : List UInt8) (c : Nat) (q : Option Addr) (m : List UInt8) (d : Nat) (w : World) (hb : BytesAt w p l) (_hc : l.length ≤ c) (_hnb : l = [] → c = 0 ∨ p ≠ none)
    (hq : BytesAt w q m) (_hd : m.length ≤ d) (hnq : m = [] → d = 0 ∨ q ≠ none) :
    Calls Tryd.prog 10 #[.slice p l.length c, .slice q m.length d] w fun e w' => e = .returned (.bool true) ∧ Below w.heap.size w w' := by
  obtain ⟨v, rfl⟩ : ∃ v, v = m := ⟨m, rfl⟩
  refine W.enter Tryd.func10 rfl Tryd.ntmps10 (Nat.le_of_ble_eq_true rfl) ?_
  have hB0 := Below.refl (w.heap.size) w
  refine W.seq ?_
  refine W.reg ?_ -- 0
  refine WL.p (.as rfl) rfl <| WL.nil <| ?_
  refine W.seq ?_
  refine W.seq ?_
  refine W.reg ?_ -- 1
  refine WL.c1 hb23 rfl rfl ((answers04 _)) (fun w1 hw1 => ?_)
  have hv2 := BytesAt.below hb hw1 (fun h0 => hb.lt h0)
  have hv3 := BytesAt.below hq hw1 (fun h0 => hq.lt h0)
  have hB4 := btr hB0 hw1
  refine WL.p (.bis (false) (.not rfl) (by rfl)) rfl <| WL.p (.mv rfl) rfl <| WL.gy rfl rfl rfl rfl <| WL.p (.mv rfl) rfl <| WL.gy rfl rfl rfl rfl <| WL.p (.lenS Tryd.underlying32 rfl) rfl <| WL.gy rfl rfl rfl rfl <| WL.p (.gtr rfl rfl) rfl <| WL.p (.pkF rfl rfl rfl) rfl <| WL.p (.mv rfl) rfl <| WL.gd rfl rfl rfl (fun g5 => ?_) (fun g5 => ?_)
  · have g5' := of_decide_eq_false g5
    refine WL.p (.mv rfl) rfl <| WL.gy rfl rfl rfl g5 <| WL.p (.lenS Tryd.underlying32 rfl) rfl <| WL.gy rfl rfl rfl g5 <| WL.p (.gtr rfl rfl) rfl <| WL.p (.pkF rfl g5 rfl) rfl <| WL.nil <| ?_
    refine W.cond rfl (fun h6 => ?_) (fun h6 => ?_) -- slot 25
    · have h6' := of_decide_eq_true h6
      refine W.seq ?_
      refine W.reg ?_ -- 2
      refine WL.c1 hb23 rfl rfl ((answers04 _)) (fun w7 hw7 => ?_)
      have hv8 := BytesAt.below hv2 hw7 (fun h0 => hv2.lt h0)
      have hv9 := BytesAt.below hv3 hw7 (fun h0 => hv3.lt h0)
      have hB10 := btr hB4 hw7
      refine WL.p (.as rfl) rfl <| WL.nil <| ?_
      refine W.ret (W.ret1 rfl rfl ?_)
      exact ⟨rfl, hB10⟩
    · have h6' := of_decide_eq_false h6
      refine W.skip ?_
      refine W.seq ?_
      refine W.reg ?_ -- 3
      refine WL.p (.mv rfl) rfl <| WL.c1 hb27 rfl rfl ((ref_escaped true p l c _ hv2 (by omega))) (fun w11 hw11 => ?_)
      have hv12 := BytesAt.below hv2 hw11 (fun h0 => hv2.lt h0)
      have hv13 := BytesAt.below hv3 hw11 (fun h0 => hv3.lt h0)
      have hB14 := btr hB4 hw11
      refine WL.p (.mv rfl) rfl <| WL.c1 hb27 rfl rfl ((ref_escaped false p l c _ hv12 (by omega))) (fun w15 hw15 => ?_)
      have hv16 := BytesAt.below hv12 hw15 (fun h0 => hv12.lt h0)
      have hv17 := BytesAt.below hv13 hw15 (fun h0 => hv13.lt h0)
      have hB18 := btr hB14 hw15
      refine WL.p (.mv rfl) rfl <| WL.c1 hb28 rfl rfl ((ref_hexed p l c _ hv16 (by omega))) (fun w19 hw19 => ?_)
      have hv20 := BytesAt.below hv16 hw19 (fun h0 => hv16.lt h0)
      have hv21 := BytesAt.below hv17 hw19 (fun h0 => hv17.lt h0)
      have hB22 := btr hB18 hw19
      refine WL.bsl (ps := _) Tryd.underlying46 Tryd.sizeOf9 Tryd.zeroValue9 rfl rfl rfl rfl rfl (by simp only [put1, List.map, List.zip, List.zipWith, List.set, List.replicate] <;> rfl) rfl (fun b23 wb23 eb23 hkb23 hub23 hsb23 => ?_)
      have hvl25 := fun h0 => eb23 ▸ hv20.lt h0
      have hv24 := BytesAt.upd hv20 hub23 (fun h0 => Nat.ne_of_lt (hvl25 h0))
      have hvl27 := fun h0 => eb23 ▸ hv21.lt h0
      have hv26 := BytesAt.upd hv21 hub23 (fun h0 => Nat.ne_of_lt (hvl27 h0))
      have hB28 := Upd.below hB22 (by rw [eb23]; exact hB22.size) hub23
      have hgeb23 : w.heap.size ≤ b23 := by rw [eb23]; exact hB22.size
      have hz := RowAt.lit (V := strV) (l := wayS l) hkb23 (rfl)
      refine WL.p (.as rfl) rfl <| WL.nil <| ?_
      refine W.seq ?_
      refine W.seq ?_
      refine W.reg ?_ -- 4
      refine WL.p (.as rfl) rfl <| WL.nil <| ?_
      refine W.block ?_
      -- loop 1: writes [4, 6, 7, 8, 9, 10, 11, 12, 13, 34, 35, 36, 37, 38, 39, 40, 41, 42, 43, 44, 45, 46, 47, 48, 49, 50, 51, 52, 53, 54, 55, 56, 57, 58, 59, 60, 61, 62, 63, 64, 65, 66, 67, 68, 69, 70, 71, 72, 73, 74, 75, 76, 77, 78, 79, 80, 81, 82, 83, 84, 85, 86, 87, 88]; reads from outside [0, 1, 5, 6]
      refine W.loop (α := Nat) (fun t => [(0, .slice p l.length c), (1, .slice q v.length d), (5, .slice (some ⟨b23, 0, none⟩) 3 3), (6, .int .i64 (t : Int))]) (fun t w' => Below w.heap.size w w' ∧ BytesAt w' p l ∧ BytesAt w' q v ∧ RowAt strV w' (some ⟨b23, 0, none⟩) (wayS l) ∧ t ≤ 3) (fun t => 3 - t) (0) ⟨rfl, rfl, rfl, rfl, trivial⟩ (⟨hB28, hv24, hv26, hz, Nat.zero_le _⟩) (fun t w1 hR => ?_)
      obtain ⟨s, rfl⟩ : ∃ s, s = t := ⟨t, rfl⟩
      obtain ⟨hT, ha2, hb2, hz2, hs⟩ := hR
      have hwl : (wayS l).length = 3 := rfl
      refine W.seq ?_
      refine W.seq ?_
      refine W.reg ?_ -- 5
      refine WL.p (.mv rfl) rfl <| WL.p (.lss rfl rfl) rfl <| WL.nil <| ?_
      refine W.cond rfl (fun h29 => ?_) (fun h29 => ?_) -- slot 35
      · have h29' := of_decide_eq_true h29
        refine W.skip ?_
        refine W.seq ?_
        refine W.block ?_
        refine W.seq ?_
        have hs3 : s < 3 := by omega
        obtain ⟨hk1, hk2, hk3, hk4⟩ := way_ok l v (by omega) s hs3
        refine W.reg ?_ -- 7
        refine WL.p (.mv rfl) rfl <| WL.p (.mv rfl) rfl <| WL.p (.ixb Tryd.underlying46 Tryd.sizeOf9 rfl rfl (hz2.isp (by omega)) (s) (by omega) (by omega)) rfl <| WL.r (Rd.ldc (Tryd.isAgg9 _) rfl (hz2.cells (s) (by omega))) rfl <| WL.s2r Tryd.underlying9 Tryd.underlying32 Tryd.underlying5 rfl rfl (fun b30 wb30 cs42 eb30 hs42 hub30 hsb30 => ?_)
        have hvl32 := fun h0 => eb30 ▸ ha2.lt h0
        have hv31 := BytesAt.upd ha2 hub30 (fun h0 => Nat.ne_of_lt (hvl32 h0))
        have hvl34 := fun h0 => eb30 ▸ hb2.lt h0
        have hv33 := BytesAt.upd hb2 hub30 (fun h0 => Nat.ne_of_lt (hvl34 h0))
        have hvl36 := fun h0 => eb30 ▸ hz2.lt h0
        have hv35 := RowAt.upd hz2 hub30 (fun h0 => Nat.ne_of_lt (hvl36 h0))
        have hB37 := Upd.below hT (by rw [eb30]; exact hT.size) hub30
        have hgeb30 : w.heap.size ≤ b30 := by rw [eb30]; exact hT.size
        have hleb30 : b30 ≤ wb30.heap.size := by omega
        refine WL.p (.mv rfl) rfl <| WL.appR Tryd.underlying32 inf5 rfl rfl rfl hs42 rfl hv33 (by omega) hleb30 rfl (hnq) (fun pa44 ca44 w38 ha44 hca44 hna44 hbw38 => ?_)
        have hv39 := BytesAt.below hv31 hbw38 hvl32
        have hv40 := BytesAt.below hv33 hbw38 hvl34
        have hv41 := RowAt.below hv35 hbw38 hvl36
        have hB42 := Below.trans hB37 (hbw38.mono (hgeb30))
        refine WL.p (.as rfl) rfl <| WL.nil <| ?_
        refine W.seq ?_
        refine W.reg ?_ -- 8
        refine WL.p (.mv rfl) rfl <| WL.c1 hb24 rfl rfl ((scan_Next 0 _ ((wayS l)[s]'hs3 ++ v) _ _ ha44 hca44 (by simp only [List.length_append]; omega))) (fun w43 hw43 => ?_)
        have hv44 := BytesAt.below hv39 hw43 (fun h0 => hv39.lt h0)
        have hv45 := BytesAt.below hv40 hw43 (fun h0 => hv40.lt h0)
        have hv46 := RowAt.below hv41 hw43 (fun h0 => hv41.lt h0)
        have hv47 := BytesAt.below ha44 hw43 (fun h0 => ha44.lt h0)
        have hB48 := btr hB42 hw43
        rw [hk1]
        refine WL.p (.mv rfl) rfl <| WL.p (.ext rfl rfl) rfl <| WL.p (.ext rfl rfl) rfl <| WL.p (.ext rfl rfl) rfl <| WL.alloc Tryd.zeroValue27 rfl (fun b49 wb49 eb49 hkb49 hub49 hsb49 => ?_)
        have hvl51 := fun h0 => eb49 ▸ hv44.lt h0
        have hv50 := BytesAt.upd hv44 hub49 (fun h0 => Nat.ne_of_lt (hvl51 h0))
        have hvl53 := fun h0 => eb49 ▸ hv45.lt h0
        have hv52 := BytesAt.upd hv45 hub49 (fun h0 => Nat.ne_of_lt (hvl53 h0))
        have hvl55 := fun h0 => eb49 ▸ hv46.lt h0
        have hv54 := RowAt.upd hv46 hub49 (fun h0 => Nat.ne_of_lt (hvl55 h0))
        have hvl57 := fun h0 => eb49 ▸ hv47.lt h0
        have hv56 := BytesAt.upd hv47 hub49 (fun h0 => Nat.ne_of_lt (hvl57 h0))
        have hB58 := Upd.below hB48 (by rw [eb49]; exact hB48.size) hub49
        have hgeb49 : w.heap.size ≤ b49 := by rw [eb49]; exact hB48.size
        refine WL.stL rfl rfl hkb49 isz27 rfl rfl (fun w59 hkw59 huw59 hsw59 => ?_)
        have hv60 := BytesAt.upd hv50 huw59 (fun h0 => Nat.ne_of_lt (hvl51 h0))
        have hv61 := BytesAt.upd hv52 huw59 (fun h0 => Nat.ne_of_lt (hvl53 h0))
        have hv62 := RowAt.upd hv54 huw59 (fun h0 => Nat.ne_of_lt (hvl55 h0))
        have hv63 := BytesAt.upd hv56 huw59 (fun h0 => Nat.ne_of_lt (hvl57 h0))
        have hB64 := Upd.below hB58 (by omega) huw59
        refine WL.p (.as rfl) rfl <| WL.p (.as rfl) rfl <| WL.nil <| ?_
        refine W.seq ?_
        refine W.seq ?_
        refine W.reg ?_ -- 9
        refine WL.p (.mv rfl) rfl <| WL.p (.bis (false) (.neq rfl rfl) (by rfl)) rfl <| WL.p (.mv rfl) rfl <| WL.gy rfl rfl rfl rfl <| WL.p (.mv rfl) rfl <| WL.gy rfl rfl rfl rfl <| WL.p (.mv rfl) rfl <| WL.gy rfl rfl rfl rfl <| WL.p (.mv rfl) rfl <| WL.gy rfl rfl rfl rfl <| WL.p (.ixb Tryd.underlying46 Tryd.sizeOf9 rfl rfl (hv62.isp (by omega)) (s) (by omega) (by omega)) rfl <| WL.gy rfl rfl rfl rfl <| WL.r (Rd.ldc (Tryd.isAgg9 _) rfl (hv62.cells (s) (by omega))) rfl <| WL.gy rfl rfl rfl rfl <| WL.p (.len Tryd.underlying9 rfl) rfl <| WL.gy rfl rfl rfl rfl <| WL.p (.bis (false) (.neq rfl rfl) (by simp; rfl)) rfl <| WL.p (.pkF rfl rfl rfl) rfl <| WL.p (.mv rfl) rfl <| WL.gy rfl rfl rfl rfl <| WL.p (.fa Tryd.underlying27 rfl Tryd.sizeOf3 (by decide) rfl) rfl <| WL.gy rfl rfl rfl rfl <| WL.r (Rd.ld (Tryd.isAgg3 _) rfl hkw59 rfl) rfl <| WL.gy rfl rfl rfl rfl <| WL.p (.bis (false) (.neq rfl rfl) (by rfl)) rfl <| WL.p (.pkF rfl rfl rfl) rfl <| WL.p (.mv rfl) rfl <| WL.gy rfl rfl rfl rfl <| WL.p (.fa Tryd.underlying27 rfl Tryd.sizeOf9 (by decide) rfl) rfl <| WL.gy rfl rfl rfl rfl <| WL.r (Rd.ld (Tryd.isAgg9 _) rfl hkw59 rfl) rfl <| WL.gy rfl rfl rfl rfl <| WL.p (.mv rfl) rfl <| WL.gy rfl rfl rfl rfl <| WL.r (Rd.b2s (l := l) Tryd.underlying32 Tryd.underlying5 Tryd.underlying9 rfl (hv60)) rfl <| WL.gy rfl rfl rfl rfl <| WL.p (.bis (false) (.nes rfl rfl) (by simp)) rfl <| WL.p (.pkF rfl rfl rfl) rfl <| WL.nil <| ?_
        refine W.condF rfl rfl ?_
        refine W.skip ?_
        refine W.seq ?_
        refine W.reg ?_ -- 11
        refine WL.p (.mv rfl) rfl <| WL.p (.mv rfl) rfl <| WL.p (.mv rfl) rfl <| WL.p (.ixb Tryd.underlying46 Tryd.sizeOf9 rfl rfl (hv62.isp (by omega)) (s) (by omega) (by omega)) rfl <| WL.r (Rd.ldc (Tryd.isAgg9 _) rfl (hv62.cells (s) (by omega))) rfl <| WL.p (.len Tryd.underlying9 rfl) rfl <| WL.p (.iis (((((wayS l)[s]'hs3).length - 1 : Nat) : Int)) (.sub rfl rfl (i64w (by omega))) (by omega)) rfl <| WL.p (.slbT Tryd.underlying32 Tryd.sizeOf5 rfl rfl  (((wayS l)[s]'hs3).dropLast.length) (by rw [List.length_dropLast]) (by have := hca44; rw [List.length_append] at this; rw [List.length_dropLast]; omega)) rfl <| WL.c1 hb24 rfl rfl ((scan_Next 0 _ (((wayS l)[s]'hs3).dropLast) _ _ (cut_bytes hv63 hca44) (by have := hca44; rw [List.length_append] at this; rw [List.length_dropLast]; omega) (by rw [List.length_dropLast]; omega))) (fun w65 hw65 => ?_)
        have hk66 := hkw59.below hw65 hkw59.lt
        have hv67 := BytesAt.below hv60 hw65 (fun h0 => hv60.lt h0)
        have hv68 := BytesAt.below hv61 hw65 (fun h0 => hv61.lt h0)
        have hv69 := RowAt.below hv62 hw65 (fun h0 => hv62.lt h0)
        have hv70 := BytesAt.below hv63 hw65 (fun h0 => hv63.lt h0)
        have hB71 := btr hB64 hw65
        rw [hk2]
        refine WL.p (.mv rfl) rfl <| WL.p (.ext rfl rfl) rfl <| WL.p (.ext rfl rfl) rfl <| WL.p (.ext rfl rfl) rfl <| WL.alloc Tryd.zeroValue27 rfl (fun b72 wb72 eb72 hkb72 hub72 hsb72 => ?_)
        have hl74 : b49 < b72 := by rw [eb72]; exact hk66.lt
        have hk73 := hk66.upd hub72 (Nat.ne_of_lt hl74)
        have hvl76 := fun h0 => eb72 ▸ hv67.lt h0
        have hv75 := BytesAt.upd hv67 hub72 (fun h0 => Nat.ne_of_lt (hvl76 h0))
        have hvl78 := fun h0 => eb72 ▸ hv68.lt h0
        have hv77 := BytesAt.upd hv68 hub72 (fun h0 => Nat.ne_of_lt (hvl78 h0))
        have hvl80 := fun h0 => eb72 ▸ hv69.lt h0
        have hv79 := RowAt.upd hv69 hub72 (fun h0 => Nat.ne_of_lt (hvl80 h0))
        have hvl82 := fun h0 => eb72 ▸ hv70.lt h0
        have hv81 := BytesAt.upd hv70 hub72 (fun h0 => Nat.ne_of_lt (hvl82 h0))
        have hB83 := Upd.below hB71 (by rw [eb72]; exact hB71.size) hub72
        have hgeb72 : w.heap.size ≤ b72 := by rw [eb72]; exact hB71.size
        refine WL.stL rfl rfl hkb72 isz27 rfl rfl (fun w84 hkw84 huw84 hsw84 => ?_)
        have hk85 := hk73.upd huw84 (by ((try simp only) <;> omega))
        have hv86 := BytesAt.upd hv75 huw84 (fun h0 => Nat.ne_of_lt (hvl76 h0))
        have hv87 := BytesAt.upd hv77 huw84 (fun h0 => Nat.ne_of_lt (hvl78 h0))
        have hv88 := RowAt.upd hv79 huw84 (fun h0 => Nat.ne_of_lt (hvl80 h0))
        have hv89 := BytesAt.upd hv81 huw84 (fun h0 => Nat.ne_of_lt (hvl82 h0))
        have hB90 := Upd.below hB83 (by omega) huw84
        refine WL.p (.as rfl) rfl <| WL.p (.as rfl) rfl <| WL.nil <| ?_
        refine W.seq ?_
        refine W.reg ?_ -- 12
        refine WL.p (.mv rfl) rfl <| WL.p (.bis (false) (.neq rfl rfl) (by rfl)) rfl <| WL.nil <| ?_
        refine W.condF rfl rfl ?_
        refine W.skip ?_
        refine W.reg ?_ -- 6
        refine WL.p (.mv rfl) rfl <| WL.p (.iis (((s + 1 : Nat) : Int)) (.add rfl rfl (i64w (by omega))) (by omega)) rfl <| WL.p (.as rfl) rfl <| WL.nil <| ?_
        exact ⟨s + 1, ⟨rfl, rfl, rfl, rfl, trivial⟩, ⟨hB90, hv86, hv87, hv88, by omega⟩, by omega⟩
      · have h29' := of_decide_eq_false h29
        refine W.exit ?_ -- 0
        refine W.seq ?_
        refine W.reg ?_ -- 14
        refine WL.p (.as rfl) rfl <| WL.nil <| ?_
        refine W.ret (W.ret1 rfl rfl ?_)
        exact ⟨rfl, hT⟩
  · have g5' := of_decide_eq_true g5
    refine WL.gn rfl rfl rfl g5 <| WL.gn rfl rfl rfl g5 <| WL.p (.pkT rfl g5 rfl) rfl <| WL.nil <| ?_
    refine W.condT rfl rfl ?_
    refine W.seq ?_
    refine W.reg ?_ -- 2
    refine WL.c1 hb23 rfl rfl ((answers04 _)) (fun w91 hw91 => ?_)
    have hv92 := BytesAt.below hv2 hw91 (fun h0 => hv2.lt h0)
    have hv93 := BytesAt.below hv3 hw91 (fun h0 => hv3.lt h0)
    have hB94 := btr hB4 hw91
    refine WL.p (.as rfl) rfl <| WL.nil <| ?_
    refine W.ret (W.ret1 rfl rfl ?_)
    exact ⟨rfl, hB94⟩

end Go.Proofs.YteaohajihhpnmaaDoor
