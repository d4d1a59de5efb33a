/-
  Scan: the program's next token.
-/
import Derived.Test.YteaohajihhpnmaaDoorScanT
import Derived.Test.YteaohajihhpnmaaDoorFwD
namespace Go.Proofs.YteaohajihhpnmaaDoor
open Go.RowKit

set_option maxRecDepth 4000

theorem scan_quiet (b1 b2 b5 : Nat) (w : World) :
    CallsD Tryd.prog 48 #[.pointer (some ⟨b1, 0, none⟩), .pointer (some ⟨b2, 0, none⟩), .pointer (some ⟨b5, 0, none⟩)] .returning w fun e u' w' => u' = .returning ∧ (∃ v, e = .returned v) ∧ w' = w := by
  refine CallsD.rec Tryd.func48 rfl Tryd.ntmps48 (Nat.le_of_ble_eq_true rfl) rfl ?_
  refine WL.p (.as rfl) rfl <| WL.nil <| ?_
  refine W.seq ?_
  refine W.reg ?_ -- 1
  refine WL.p (.mv rfl) rfl <| WL.p (.neNil0 (by kernel_rfl) rfl) rfl <| WL.nil <| ?_
  refine W.condF rfl rfl ?_
  refine W.skip ?_
  refine W.norm (W.ret0 rfl ?_)
  exact ⟨⟨_, rfl⟩, rfl⟩
theorem scan_caught (b1 b2 b5 B : Nat) (x y : Int) (z : ByteArray) (i j k : Int) (w : World) (h1 : Blk w b1 #[.int .i64 x, .int .i64 y, .string z] 27) (h2 : Blk w b2 #[.int .i64 i] 3) (h5 : Blk w b5 #[.int .i64 j] 28) (hB1 : B ≤ b1) (h12 : b1 < b2) (h25 : b2 < b5) :
    CallsD Tryd.prog 48 #[.pointer (some ⟨b1, 0, none⟩), .pointer (some ⟨b2, 0, none⟩), .pointer (some ⟨b5, 0, none⟩)] (.panicking [{ v := .iface 28 (.int .i64 k), recovered := false }]) w
      fun e u' w' => u' = .panicking [{ v := .iface 28 (.int .i64 k), recovered := true }] ∧ (∃ v, e = .returned v) ∧
        Blk w' b1 #[.int .i64 0, .int .i64 0, .string ⟨#[]⟩] 27 ∧ Blk w' b2 #[.int .i64 0] 3 ∧ Blk w' b5 #[.int .i64 k] 28 ∧ Below B w w' := by
  refine CallsD.rec Tryd.func48 rfl Tryd.ntmps48 (Nat.le_of_ble_eq_true rfl) rfl ?_
  have hB0 := Below.refl (B) w
  refine WL.p (.as rfl) rfl <| WL.nil <| ?_
  refine W.seq ?_
  refine W.reg ?_ -- 1
  refine WL.p (.mv rfl) rfl <| WL.p (.neNil (by kernel_rfl) rfl) rfl <| WL.nil <| ?_
  refine W.condT rfl rfl ?_
  refine W.seq ?_
  refine W.reg ?_ -- 2
  refine WL.p (.mv rfl) rfl <| WL.p (.tas Tryd.underlying28 rfl) rfl <| WL.p (.mv rfl) rfl <| WL.p (.ext rfl rfl) rfl <| WL.p (.ext rfl rfl) rfl <| WL.p (.as rfl) rfl <| WL.p (.as rfl) rfl <| WL.nil <| ?_
  refine W.seq ?_
  refine W.seq ?_
  refine W.reg ?_ -- 3
  refine WL.p (.mv rfl) rfl <| WL.p (.not rfl) rfl <| WL.nil <| ?_
  refine W.condF rfl rfl ?_
  refine W.skip ?_
  refine W.reg ?_ -- 5
  refine WL.p (.buildL (ps := _) blt27 rfl rfl rfl (by simp only [put1, List.map, List.zip, List.zipWith] <;> rfl)) rfl ?_
  refine WL.p (.mv rfl) rfl <| WL.stL rfl rfl h1 isz27 rfl rfl (fun w1 hkw1 huw1 hsw1 => ?_)
  have hk2 := h2.upd huw1 (by ((try simp only) <;> omega))
  have hk3 := h5.upd huw1 (by ((try simp only) <;> omega))
  have hB4 := Upd.below hB0 (by omega) huw1
  refine WL.st Tryd.sizeOf3 rfl rfl rfl hk2 (by first | decide | exact Nat.le_of_ble_eq_true rfl) (fun w5 hkw5 huw5 hsw5 => ?_)
  have hk6 := hkw1.upd huw5 (by ((try simp only) <;> omega))
  have hk7 := hk3.upd huw5 (by ((try simp only) <;> omega))
  have hB8 := Upd.below hB4 (by omega) huw5
  refine WL.st Tryd.sizeOf28 rfl rfl rfl hk7 (by first | decide | exact Nat.le_of_ble_eq_true rfl) (fun w9 hkw9 huw9 hsw9 => ?_)
  have hk10 := hk6.upd huw9 (by ((try simp only) <;> omega))
  have hk11 := hkw5.upd huw9 (by ((try simp only) <;> omega))
  have hB12 := Upd.below hB8 (by omega) huw9
  refine WL.nil <| ?_
  refine W.norm (W.ret0 rfl ?_)
  exact ⟨⟨_, rfl⟩, hk10, hk11, hkw9, hB12⟩
theorem scan_Next (a : Int) (p : Option Addr) (l : List UInt8) (c : Nat) (w : World) (hb : BytesAt w p l) (hc : l.length ≤ c) (hl : l.length ≤ 1000000) :
    Calls Tryd.prog 24 #[.slice p l.length c, .int .i64 a] w fun e w' => e = .returned (nextR l a).val ∧ Below w.heap.size w w' := by
  refine W.enterD Tryd.func24 rfl Tryd.ntmps24 (Nat.le_of_ble_eq_true rfl) ?_
  have hB0 := Below.refl (w.heap.size) w
  refine WD.seq ?_
  refine W.reg ?_ -- 0
  refine WL.alloc Tryd.zeroValue27 rfl (fun b1 wb1 eb1 hkb1 hub1 hsb1 => ?_)
  have hvl3 := fun h0 => eb1 ▸ hb.lt h0
  have hv2 := BytesAt.upd hb hub1 (fun h0 => Nat.ne_of_lt (hvl3 h0))
  have hB4 := Upd.below hB0 (by rw [eb1]; exact hB0.size) hub1
  have hgeb1 : w.heap.size ≤ b1 := by rw [eb1]; exact hB0.size
  refine WL.alloc Tryd.zeroValue3 rfl (fun b5 wb5 eb5 hkb5 hub5 hsb5 => ?_)
  have hl7 : b1 < b5 := by rw [eb5]; exact hkb1.lt
  have hk6 := hkb1.upd hub5 (Nat.ne_of_lt hl7)
  have hvl9 := fun h0 => eb5 ▸ hv2.lt h0
  have hv8 := BytesAt.upd hv2 hub5 (fun h0 => Nat.ne_of_lt (hvl9 h0))
  have hB10 := Upd.below hB4 (by rw [eb5]; exact hB4.size) hub5
  have hgeb5 : w.heap.size ≤ b5 := by rw [eb5]; exact hB4.size
  refine WL.alloc Tryd.zeroValue28 rfl (fun b11 wb11 eb11 hkb11 hub11 hsb11 => ?_)
  have hl13 : b1 < b11 := by rw [eb11]; exact hk6.lt
  have hk12 := hk6.upd hub11 (Nat.ne_of_lt hl13)
  have hl15 : b5 < b11 := by rw [eb11]; exact hkb5.lt
  have hk14 := hkb5.upd hub11 (Nat.ne_of_lt hl15)
  have hvl17 := fun h0 => eb11 ▸ hv8.lt h0
  have hv16 := BytesAt.upd hv8 hub11 (fun h0 => Nat.ne_of_lt (hvl17 h0))
  have hB18 := Upd.below hB10 (by rw [eb11]; exact hB10.size) hub11
  have hgeb11 : w.heap.size ≤ b11 := by rw [eb11]; exact hB10.size
  refine WL.nil <| ?_
  refine WD.seq ?_
  refine W.cutB 15 (decide (a < 0 ∨ (l.length : Int) < a)) ?_ ?_
  · skip
    refine W.reg ?_ -- 1
    refine WL.p (.mv rfl) rfl <| WL.p (.lss rfl rfl) rfl <| WL.p (.mv rfl) rfl <| WL.gd rfl rfl rfl (fun g19 => ?_) (fun g19 => ?_)
    · have g19' := of_decide_eq_false g19
      refine WL.p (.mv rfl) rfl <| WL.gy rfl rfl rfl g19 <| WL.p (.mv rfl) rfl <| WL.gy rfl rfl rfl g19 <| WL.p (.lenS Tryd.underlying32 rfl) rfl <| WL.gy rfl rfl rfl g19 <| WL.p (.gtr rfl rfl) rfl <| WL.p (.pkF rfl g19 rfl) rfl <| WL.nil <| ?_
      exact ⟨⟨lk_b rfl (by (apply Bool.eq_iff_iff.2; (try simp only [Bool.and_eq_true, Bool.or_eq_true, Bool.not_eq_true', decide_eq_true_eq, decide_eq_false_iff_not, Bool.false_eq_true, Bool.not_eq_false', false_iff, iff_false, true_iff, iff_true]); omega)), by repeat (first | exact Le.refl _ | refine Le.cons rfl ?_)⟩, rfl⟩
    · have g19' := of_decide_eq_true g19
      refine WL.gn rfl rfl rfl g19 <| WL.gn rfl rfl rfl g19 <| WL.gn rfl rfl rfl g19 <| WL.p (.pkT rfl g19 rfl) rfl <| WL.nil <| ?_
      exact ⟨⟨lk_b rfl (by (apply Bool.eq_iff_iff.2; (try simp only [Bool.and_eq_true, Bool.or_eq_true, Bool.not_eq_true', decide_eq_true_eq, decide_eq_false_iff_not, Bool.false_eq_true, Bool.not_eq_false', false_iff, iff_false, true_iff, iff_true]); omega)), by repeat (first | exact Le.refl _ | refine Le.cons rfl ?_)⟩, rfl⟩
  refine W.cond rfl (fun h20 => ?_) (fun h20 => ?_) -- slot 15
  · have h20' := of_decide_eq_true h20
    refine W.seq ?_
    refine W.reg ?_ -- 2
    refine WL.p (.buildL (ps := _) blt27 rfl rfl rfl (by simp only [put1, List.map, List.zip, List.zipWith] <;> rfl)) rfl ?_
    refine WL.stL rfl rfl hk12 isz27 rfl rfl (fun w21 hkw21 huw21 hsw21 => ?_)
    have hk22 := hk14.upd huw21 (by ((try simp only) <;> omega))
    have hk23 := hkb11.upd huw21 (by ((try simp only) <;> omega))
    have hv24 := BytesAt.upd hv16 huw21 (fun h0 => Nat.ne_of_lt (hvl3 h0))
    have hB25 := Upd.below hB18 (by omega) huw21
    refine WL.st Tryd.sizeOf3 rfl rfl rfl hk22 (by first | decide | exact Nat.le_of_ble_eq_true rfl) (fun w26 hkw26 huw26 hsw26 => ?_)
    have hk27 := hkw21.upd huw26 (by ((try simp only) <;> omega))
    have hk28 := hk23.upd huw26 (by ((try simp only) <;> omega))
    have hv29 := BytesAt.upd hv24 huw26 (fun h0 => Nat.ne_of_lt (hvl9 h0))
    have hB30 := Upd.below hB25 (by omega) huw26
    refine WL.st Tryd.sizeOf28 rfl rfl rfl hk28 (by first | decide | exact Nat.le_of_ble_eq_true rfl) (fun w31 hkw31 huw31 hsw31 => ?_)
    have hk32 := hk27.upd huw31 (by ((try simp only) <;> omega))
    have hk33 := hkw26.upd huw31 (by ((try simp only) <;> omega))
    have hv34 := BytesAt.upd hv29 huw31 (fun h0 => Nat.ne_of_lt (hvl17 h0))
    have hB35 := Upd.below hB30 (by omega) huw31
    refine WL.nil <| ?_
    refine W.ret ?_
    exact PostD.ret0 (ResOk.cells3 rfl rfl rfl rfl (ldRow hk32 Tryd.underlying27 rfl isz27) (ldCell hk33 (Tryd.isAgg3 _) rfl) (ldCell hkw31 (Tryd.isAgg28 _) rfl)) ⟨ret_val (by unfold nextR; rw [if_pos (by omega)]; (first | done | rfl)), hB35⟩
  · have h20' := of_decide_eq_false h20
    obtain ⟨n, rfl⟩ := Int.eq_ofNat_of_zero_le (a := a) (by omega)
    have hN : nextR l (n : Int) = nrOf l (tokS (l.drop n)) := by unfold nextR; rw [if_neg (by omega)]; rfl
    refine W.skip ?_
    refine WD.defer rfl rfl ?_ -- 3
    refine WD.of ?_
    refine W.seq ?_
    refine W.reg ?_ -- 4
    refine WL.p (.mv rfl) rfl <| WL.p (.mv rfl) rfl <| ?_
    refine WL.p (.buildL (ps := _) blt71 rfl rfl rfl (by simp only [put1, List.map, List.zip, List.zipWith, List.set] <;> rfl)) rfl ?_
    refine WL.box rfl rfl (fun b36 wb36 eb36 hkb36 hub36 hsb36 => ?_)
    have hl38 : b1 < b36 := by rw [eb36]; exact hk12.lt
    have hk37 := hk12.upd hub36 (Nat.ne_of_lt hl38)
    have hl40 : b5 < b36 := by rw [eb36]; exact hk14.lt
    have hk39 := hk14.upd hub36 (Nat.ne_of_lt hl40)
    have hl42 : b11 < b36 := by rw [eb36]; exact hkb11.lt
    have hk41 := hkb11.upd hub36 (Nat.ne_of_lt hl42)
    have hvl44 := fun h0 => eb36 ▸ hv16.lt h0
    have hv43 := BytesAt.upd hv16 hub36 (fun h0 => Nat.ne_of_lt (hvl44 h0))
    have hB45 := Upd.below hB18 (by rw [eb36]; exact hB18.size) hub36
    have hgeb36 : w.heap.size ≤ b36 := by rw [eb36]; exact hB18.size
    refine WL.p (.as rfl) rfl <| WL.nil <| ?_
    refine W.seq ?_
    refine W.reg ?_ -- 5
    refine WL.p (.mv rfl) rfl <| WL.ce hb49 rfl rfl ((scan_token b36 p l c n _ ⟨hkb36, hv43⟩ (fun h0 => by have := hb.lt h0; omega) hc hl (by omega))) (fun k48 w46 hrw46 hw46 => ?_) (fun a47 w46 hrw46 hw46 => ?_)
    · skip
      have hBew46 := Below.trans hB45 (Touch.below hw46 hB45.size (by omega))
      exact PostD.caught hb48 (fun w' => _) (scan_caught b1 b5 b11 w.heap.size _ _ _ _ _ k48 _ (Blk.touch hk37 hw46 hk37.lt (by omega)) (Blk.touch hk39 hw46 hk39.lt (by omega)) (Blk.touch hk41 hw46 hk41.lt (by omega)) (by omega) (by omega) (by omega))
        (fun w' hS => ⟨_, ResOk.cells3 rfl rfl rfl rfl (ldRow hS.1 Tryd.underlying27 rfl isz27) (ldCell hS.2.1 (Tryd.isAgg3 _) rfl) (ldCell hS.2.2.1 (Tryd.isAgg28 _) rfl), ret_val (by rw [hN, hrw46]; (first | done | rfl)), hBew46.trans hS.2.2.2⟩)
    · skip
      obtain ⟨kr, hkr, hkl, hw46⟩ := hw46
      have hk49 := Blk.touch hk37 hw46.2 hk37.lt (by omega)
      have hk50 := Blk.touch hk39 hw46.2 hk39.lt (by omega)
      have hk51 := Blk.touch hk41 hw46.2 hk41.lt (by omega)
      have hk52 := hw46.1.1
      have hv53 := hw46.1.2
      have hB54 := Below.trans hB45 (Touch.below hw46.2 hB45.size (by omega))
      have hra := hrw46
      obtain ⟨t0, rest⟩ := a47
      obtain rfl : rest = l.drop kr := hkr
      refine WL.stL rfl rfl hk49 isz27 rfl rfl (fun w55 hkw55 huw55 hsw55 => ?_)
      have hk56 := hk50.upd huw55 (by ((try simp only) <;> omega))
      have hk57 := hk51.upd huw55 (by ((try simp only) <;> omega))
      have hk58 := hk52.upd huw55 (by ((try simp only) <;> omega))
      have hv59 := BytesAt.upd hv53 huw55 (fun h0 => Nat.ne_of_lt (hvl3 h0))
      have hB60 := Upd.below hB54 (by omega) huw55
      refine WL.nil <| ?_
      refine W.seq ?_
      refine W.noPn ?_
      refine W.regY 8 rfl mixed (fun w61 dw61 => ?_) -- 6
      have hk62 := hkw55.drew dw61
      have hk63 := hk56.drew dw61
      have hk64 := hk57.drew dw61
      have hk65 := hk58.drew dw61
      have hv66 := hv59.drew dw61
      have hB67 := Drew.below hB60 dw61
      refine WY.take 1 rfl (by kernel_rfl) (by kernel_rfl) (by kernel_rfl) (fun c f w h => h) (.mv rfl) rfl ?_
      refine WY.take 2 rfl (by kernel_rfl) (by kernel_rfl) (by kernel_rfl) (fun c f w h => h) (.nck rfl) rfl ?_
      refine WY.take 3 rfl (by kernel_rfl) (by kernel_rfl) (by kernel_rfl) (fun c f w h => h) (.fa Tryd.underlying71 rfl Tryd.sizeOf3 (by decide) rfl) rfl ?_
      refine WY.br [0, 4] (by kernel_rfl) rfl ⟨⟨_, rfl, ?_⟩, ⟨_, rfl, ?_⟩, trivial⟩
      · skip
        refine WL.r (Rd.ldA rfl hk62 Tryd.underlying27 rfl isz27) rfl <| WL.nil <| ?_
        refine WY.br [4, 5] (by kernel_rfl) rfl ⟨⟨_, rfl, ?_⟩, ⟨_, rfl, ?_⟩, trivial⟩
        · skip
          refine WL.r (Rd.ld (Tryd.isAgg3 _) rfl hk65 rfl) rfl <| WL.nil <| ?_
          refine WY.br [5] (by kernel_rfl) rfl ⟨⟨_, rfl, ?_⟩, trivial⟩
          · skip
            refine WL.stL rfl rfl hk62 isz27 rfl rfl (fun w68 hkw68 huw68 hsw68 => ?_)
            have hk69 := hk63.upd huw68 (by ((try simp only) <;> omega))
            have hk70 := hk64.upd huw68 (by ((try simp only) <;> omega))
            have hk71 := hk65.upd huw68 (by ((try simp only) <;> omega))
            have hv72 := BytesAt.upd hv66 huw68 (fun h0 => Nat.ne_of_lt (hvl3 h0))
            have hB73 := Upd.below hB67 (by omega) huw68
            refine WL.nil <| ?_
            refine WY.br [6] (by kernel_rfl) rfl ⟨⟨_, rfl, ?_⟩, trivial⟩
            · skip
              refine WL.st Tryd.sizeOf3 rfl rfl rfl hk69 (by first | decide | exact Nat.le_of_ble_eq_true rfl) (fun w74 hkw74 huw74 hsw74 => ?_)
              have hk75 := hkw68.upd huw74 (by ((try simp only) <;> omega))
              have hk76 := hk70.upd huw74 (by ((try simp only) <;> omega))
              have hk77 := hk71.upd huw74 (by ((try simp only) <;> omega))
              have hv78 := BytesAt.upd hv72 huw74 (fun h0 => Nat.ne_of_lt (hvl9 h0))
              have hB79 := Upd.below hB73 (by omega) huw74
              refine WL.nil <| ?_
              refine WY.br [7] (by kernel_rfl) rfl ⟨⟨_, rfl, ?_⟩, trivial⟩
              · skip
                refine WL.st Tryd.sizeOf28 rfl rfl rfl hk76 (by first | decide | exact Nat.le_of_ble_eq_true rfl) (fun w80 hkw80 huw80 hsw80 => ?_)
                have hk81 := hk75.upd huw80 (by ((try simp only) <;> omega))
                have hk82 := hkw74.upd huw80 (by ((try simp only) <;> omega))
                have hk83 := hk77.upd huw80 (by ((try simp only) <;> omega))
                have hv84 := BytesAt.upd hv78 huw80 (fun h0 => Nat.ne_of_lt (hvl17 h0))
                have hB85 := Upd.below hB79 (by omega) huw80
                refine WL.nil <| ?_
                refine WY.done (by kernel_rfl) ?_
                refine W.ret ?_
                exact PostD.ret hb48 (fun w' => _) (scan_quiet b1 b5 b11 _)
                  (fun w' hS => by subst hS; exact ⟨_, ResOk.cells3 rfl rfl rfl rfl (ldRow hk81 Tryd.underlying27 rfl isz27) (ldCell hk82 (Tryd.isAgg3 _) rfl) (ldCell hkw80 (Tryd.isAgg28 _) rfl), ret_val (by rw [hN, hra, nrOf_drop _ _ _ hkl]; (first | done | rfl)), hB85⟩)
        · skip
          refine WL.stL rfl rfl hk62 isz27 rfl rfl (fun w86 hkw86 huw86 hsw86 => ?_)
          have hk87 := hk63.upd huw86 (by ((try simp only) <;> omega))
          have hk88 := hk64.upd huw86 (by ((try simp only) <;> omega))
          have hk89 := hk65.upd huw86 (by ((try simp only) <;> omega))
          have hv90 := BytesAt.upd hv66 huw86 (fun h0 => Nat.ne_of_lt (hvl3 h0))
          have hB91 := Upd.below hB67 (by omega) huw86
          refine WL.nil <| ?_
          refine WY.br [4] (by kernel_rfl) rfl ⟨⟨_, rfl, ?_⟩, trivial⟩
          · skip
            refine WL.r (Rd.ld (Tryd.isAgg3 _) rfl hk89 rfl) rfl <| WL.nil <| ?_
            refine WY.br [6] (by kernel_rfl) rfl ⟨⟨_, rfl, ?_⟩, trivial⟩
            · skip
              refine WL.st Tryd.sizeOf3 rfl rfl rfl hk87 (by first | decide | exact Nat.le_of_ble_eq_true rfl) (fun w92 hkw92 huw92 hsw92 => ?_)
              have hk93 := hkw86.upd huw92 (by ((try simp only) <;> omega))
              have hk94 := hk88.upd huw92 (by ((try simp only) <;> omega))
              have hk95 := hk89.upd huw92 (by ((try simp only) <;> omega))
              have hv96 := BytesAt.upd hv90 huw92 (fun h0 => Nat.ne_of_lt (hvl9 h0))
              have hB97 := Upd.below hB91 (by omega) huw92
              refine WL.nil <| ?_
              refine WY.br [7] (by kernel_rfl) rfl ⟨⟨_, rfl, ?_⟩, trivial⟩
              · skip
                refine WL.st Tryd.sizeOf28 rfl rfl rfl hk94 (by first | decide | exact Nat.le_of_ble_eq_true rfl) (fun w98 hkw98 huw98 hsw98 => ?_)
                have hk99 := hk93.upd huw98 (by ((try simp only) <;> omega))
                have hk100 := hkw92.upd huw98 (by ((try simp only) <;> omega))
                have hk101 := hk95.upd huw98 (by ((try simp only) <;> omega))
                have hv102 := BytesAt.upd hv96 huw98 (fun h0 => Nat.ne_of_lt (hvl17 h0))
                have hB103 := Upd.below hB97 (by omega) huw98
                refine WL.nil <| ?_
                refine WY.done (by kernel_rfl) ?_
                refine W.ret ?_
                exact PostD.ret hb48 (fun w' => _) (scan_quiet b1 b5 b11 _)
                  (fun w' hS => by subst hS; exact ⟨_, ResOk.cells3 rfl rfl rfl rfl (ldRow hk99 Tryd.underlying27 rfl isz27) (ldCell hk100 (Tryd.isAgg3 _) rfl) (ldCell hkw98 (Tryd.isAgg28 _) rfl), ret_val (by rw [hN, hra, nrOf_drop _ _ _ hkl]; (first | done | rfl)), hB103⟩)
      · skip
        refine WL.r (Rd.ld (Tryd.isAgg3 _) rfl hk65 rfl) rfl <| WL.nil <| ?_
        refine WY.br [0] (by kernel_rfl) rfl ⟨⟨_, rfl, ?_⟩, trivial⟩
        · skip
          refine WL.r (Rd.ldA rfl hk62 Tryd.underlying27 rfl isz27) rfl <| WL.nil <| ?_
          refine WY.br [5] (by kernel_rfl) rfl ⟨⟨_, rfl, ?_⟩, trivial⟩
          · skip
            refine WL.stL rfl rfl hk62 isz27 rfl rfl (fun w104 hkw104 huw104 hsw104 => ?_)
            have hk105 := hk63.upd huw104 (by ((try simp only) <;> omega))
            have hk106 := hk64.upd huw104 (by ((try simp only) <;> omega))
            have hk107 := hk65.upd huw104 (by ((try simp only) <;> omega))
            have hv108 := BytesAt.upd hv66 huw104 (fun h0 => Nat.ne_of_lt (hvl3 h0))
            have hB109 := Upd.below hB67 (by omega) huw104
            refine WL.nil <| ?_
            refine WY.br [6] (by kernel_rfl) rfl ⟨⟨_, rfl, ?_⟩, trivial⟩
            · skip
              refine WL.st Tryd.sizeOf3 rfl rfl rfl hk105 (by first | decide | exact Nat.le_of_ble_eq_true rfl) (fun w110 hkw110 huw110 hsw110 => ?_)
              have hk111 := hkw104.upd huw110 (by ((try simp only) <;> omega))
              have hk112 := hk106.upd huw110 (by ((try simp only) <;> omega))
              have hk113 := hk107.upd huw110 (by ((try simp only) <;> omega))
              have hv114 := BytesAt.upd hv108 huw110 (fun h0 => Nat.ne_of_lt (hvl9 h0))
              have hB115 := Upd.below hB109 (by omega) huw110
              refine WL.nil <| ?_
              refine WY.br [7] (by kernel_rfl) rfl ⟨⟨_, rfl, ?_⟩, trivial⟩
              · skip
                refine WL.st Tryd.sizeOf28 rfl rfl rfl hk112 (by first | decide | exact Nat.le_of_ble_eq_true rfl) (fun w116 hkw116 huw116 hsw116 => ?_)
                have hk117 := hk111.upd huw116 (by ((try simp only) <;> omega))
                have hk118 := hkw110.upd huw116 (by ((try simp only) <;> omega))
                have hk119 := hk113.upd huw116 (by ((try simp only) <;> omega))
                have hv120 := BytesAt.upd hv114 huw116 (fun h0 => Nat.ne_of_lt (hvl17 h0))
                have hB121 := Upd.below hB115 (by omega) huw116
                refine WL.nil <| ?_
                refine WY.done (by kernel_rfl) ?_
                refine W.ret ?_
                exact PostD.ret hb48 (fun w' => _) (scan_quiet b1 b5 b11 _)
                  (fun w' hS => by subst hS; exact ⟨_, ResOk.cells3 rfl rfl rfl rfl (ldRow hk117 Tryd.underlying27 rfl isz27) (ldCell hk118 (Tryd.isAgg3 _) rfl) (ldCell hkw116 (Tryd.isAgg28 _) rfl), ret_val (by rw [hN, hra, nrOf_drop _ _ _ hkl]; (first | done | rfl)), hB121⟩)

end Go.Proofs.YteaohajihhpnmaaDoor
