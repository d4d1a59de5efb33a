/-
  Scan: the law ScanBlanks, walked.
-/
import Derived.Test.YteaohajihhpnmaaDoorScanB
import Derived.Test.YteaohajihhpnmaaDoorScanK
namespace Go.Proofs.YteaohajihhpnmaaDoor
open Go.RowKit

theorem law_ScanBlanks (p : Option Addr) (ws : List UInt8) (c : Nat) (q : Option Addr) (gs : List UInt8) (d : Nat) (w : World) (hb : BytesAt w p ws) (_hc : ws.length ≤ c) (_hnb : ws = [] → c = 0 ∨ p ≠ none)
    (hq : BytesAt w q gs) (_hd : gs.length ≤ d) (_hnq : gs = [] → d = 0 ∨ q ≠ none) :
    Calls Tryd.prog 12 #[.slice p ws.length c, .slice q gs.length d] w fun e w' => e = .returned (.bool true) ∧ Below w.heap.size w w' := by
  refine W.enter Tryd.func12 rfl Tryd.ntmps12 (Nat.le_of_ble_eq_true rfl) ?_
  have hB0 := Below.refl (w.heap.size) w
  refine W.seq ?_
  refine W.reg ?_ -- 0
  refine WL.p (.as rfl) rfl <| WL.nil <| ?_
  refine W.seq ?_
  refine W.reg ?_ -- 1
  refine WL.bsl (ps := _) Tryd.underlying46 Tryd.sizeOf9 Tryd.zeroValue9 rfl rfl rfl rfl rfl (by simp only [put1, List.map, List.zip, List.zipWith, List.set, List.replicate] <;> rfl) rfl (fun b1 wb1 eb1 hkb1 hub1 hsb1 => ?_)
  have hvl3 := fun h0 => eb1 ▸ hb.lt h0
  have hv2 := BytesAt.upd hb hub1 (fun h0 => Nat.ne_of_lt (hvl3 h0))
  have hvl5 := fun h0 => eb1 ▸ hq.lt h0
  have hv4 := BytesAt.upd hq hub1 (fun h0 => Nat.ne_of_lt (hvl5 h0))
  have hB6 := Upd.below hB0 (by rw [eb1]; exact hB0.size) hub1
  have hgeb1 : w.heap.size ≤ b1 := by rw [eb1]; exact hB0.size
  have hz := RowAt.lit (V := strV) (l := wordsL) hkb1 (rfl)
  refine WL.p (.as rfl) rfl <| WL.nil <| ?_
  refine W.seq ?_
  refine W.reg ?_ -- 2
  refine WL.bsl (ps := _) Tryd.underlying46 Tryd.sizeOf9 Tryd.zeroValue9 rfl rfl rfl rfl rfl (by simp only [put1, List.map, List.zip, List.zipWith, List.set, List.replicate] <;> rfl) rfl (fun b7 wb7 eb7 hkb7 hub7 hsb7 => ?_)
  have hvl9 := fun h0 => eb7 ▸ hv2.lt h0
  have hv8 := BytesAt.upd hv2 hub7 (fun h0 => Nat.ne_of_lt (hvl9 h0))
  have hvl11 := fun h0 => eb7 ▸ hv4.lt h0
  have hv10 := BytesAt.upd hv4 hub7 (fun h0 => Nat.ne_of_lt (hvl11 h0))
  have hvl13 := fun h0 => eb7 ▸ hz.lt h0
  have hv12 := RowAt.upd hz hub7 (fun h0 => Nat.ne_of_lt (hvl13 h0))
  have hB14 := Upd.below hB6 (by rw [eb7]; exact hB6.size) hub7
  have hgeb7 : w.heap.size ≤ b7 := by rw [eb7]; exact hB6.size
  have hf := RowAt.lit (V := strV) (l := fillL) hkb7 (rfl)
  refine WL.p (.as rfl) rfl <| WL.nil <| ?_
  refine W.seq ?_
  refine W.seq ?_
  refine W.reg ?_ -- 3
  refine WL.p (.mv rfl) rfl <| WL.p (.lenS Tryd.underlying32 rfl) rfl <| WL.p (.gtr rfl rfl) rfl <| WL.nil <| ?_
  refine W.cond rfl (fun h15 => ?_) (fun h15 => ?_) -- slot 25
  · have h15' := of_decide_eq_true h15
    refine W.seq ?_
    refine W.reg ?_ -- 4
    refine WL.c1 hb23 rfl rfl ((answers04 _)) (fun w16 hw16 => ?_)
    have hv17 := BytesAt.below hv8 hw16 (fun h0 => hv8.lt h0)
    have hv18 := BytesAt.below hv10 hw16 (fun h0 => hv10.lt h0)
    have hv19 := RowAt.below hv12 hw16 (fun h0 => hv12.lt h0)
    have hv20 := RowAt.below hf hw16 (fun h0 => hf.lt h0)
    have hB21 := btr hB14 hw16
    refine WL.p (.as rfl) rfl <| WL.nil <| ?_
    refine W.ret (W.ret1 rfl rfl ?_)
    exact ⟨rfl, hB21⟩
  · have h15' := of_decide_eq_false h15
    refine W.skip ?_
    refine W.seq ?_
    refine W.reg ?_ -- 5
    refine WL.p (.as rfl) rfl <| WL.p (.as rfl) rfl <| WL.nil <| ?_
    refine W.seq ?_
    refine W.seq ?_
    refine W.reg ?_ -- 6
    refine WL.p (.as rfl) rfl <| WL.nil <| ?_
    refine W.block ?_
    have hpl := plainT_len ws
    have hgl := gapT_len ws gs
    -- loop 1: writes [7, 8, 9, 10, 11, 27, 28, 29, 30, 31, 32, 33, 34, 35, 36, 37, 38, 39, 40, 41, 42, 43, 44, 45, 46, 47, 48, 49, 50, 51, 52, 53, 54, 55, 56, 57, 58, 59, 60, 61, 62, 63, 64, 65, 66, 67, 68, 69, 70]; reads from outside [0, 1, 5, 6, 7, 8, 9]
    refine W.loop (α := Nat) (fun t => [(0, .slice p ws.length c), (1, .slice q gs.length d), (5, .slice (some ⟨b1, 0, none⟩) 16 16), (6, .slice (some ⟨b7, 0, none⟩) 7 7), (7, .string (bs (plainT (ws.take t)))), (8, .string (bs (gapT (ws.take t) gs))), (9, .int .i64 (t : Int))]) (fun t w' => Below w.heap.size w w' ∧ BytesAt w' p ws ∧ BytesAt w' q gs ∧ RowAt strV w' (some ⟨b1, 0, none⟩) wordsL ∧ RowAt strV w' (some ⟨b7, 0, none⟩) fillL ∧ t ≤ ws.length) (fun t => ws.length - t) (0) ⟨rfl, rfl, rfl, rfl, rfl, rfl, rfl, trivial⟩ (⟨hB14, hv8, hv10, hv12, hf, Nat.zero_le _⟩) (fun t w1 hR => ?_)
    obtain ⟨s, rfl⟩ : ∃ s, s = t := ⟨t, rfl⟩
    obtain ⟨hT, ha2, hb2, hz2, hf2, hs⟩ := hR
    have hwl : wordsL.length = 16 := rfl
    have hfl : fillL.length = 7 := rfl
    have h1l := plainT_len (ws.take s)
    have h2l := gapT_len (ws.take s) gs
    have h3l : (ws.take s).length ≤ ws.length := by rw [List.length_take]; omega
    refine W.seq ?_
    refine W.seq ?_
    refine W.reg ?_ -- 7
    refine WL.p (.mv rfl) rfl <| WL.p (.mv rfl) rfl <| WL.p (.lenS Tryd.underlying32 rfl) rfl <| WL.p (.lss rfl rfl) rfl <| WL.nil <| ?_
    refine W.cond rfl (fun h22 => ?_) (fun h22 => ?_) -- slot 30
    · have h22' := of_decide_eq_true h22
      refine W.skip ?_
      refine W.seq ?_
      refine W.block ?_
      refine W.seq ?_
      have hlt : s < ws.length := by omega
      obtain ⟨x, hx⟩ : ∃ x, x = ws[s]'hlt := ⟨_, rfl⟩
      have hx256 : x.toNat < 256 := UInt8.toNat_lt x
      have hwa := wordAtN_len x
      have hst1 : plainT (ws.take (s + 1)) = plainT (ws.take s) ++ wordAtN x ++ [32] := by rw [List.take_add_one, List.getElem?_eq_getElem hlt, ← hx, Option.toList_some, plainT_snoc]
      have hst2 : gapT (ws.take (s + 1)) gs = gapT (ws.take s) gs ++ fillA (gs[s]?.getD 0) ++ wordAtN x ++ fillZ (gs[s]?.getD 0) := by rw [List.take_add_one, List.getElem?_eq_getElem hlt, ← hx, Option.toList_some, gapT_snoc, List.length_take, show min s ws.length = s by omega]
      refine W.reg ?_ -- 9
      refine WL.p (.mv rfl) rfl <| WL.p (.mv rfl) rfl <| WL.p (.mv rfl) rfl <| WL.p (.ixb Tryd.underlying32 Tryd.sizeOf5 rfl rfl (ha2.isp (by omega)) (s) (by omega) (by omega)) rfl <| WL.r (Rd.iis ((x.toNat : Int)) (Rd.ldc (Tryd.isAgg5 _) rfl (ha2.cells (s) (by omega))) (by rw [hx])) rfl <| WL.p (.cvt Tryd.underlying5 Tryd.underlying3 rfl (i64w (by omega))) rfl <| WL.p (.iis (((x.toNat % 15 : Nat) : Int)) (.rem rfl rfl (by omega) (Int.tmod_eq_emod_of_nonneg (by omega))) (by omega)) rfl <| WL.p (.ixb Tryd.underlying46 Tryd.sizeOf9 rfl rfl (hz2.isp (by omega)) (x.toNat % 15) (by omega) (by omega)) rfl <| WL.r (Rd.ldc (Tryd.isAgg9 _) rfl (hz2.cells (x.toNat % 15) (by omega))) rfl <| WL.p (.as rfl) rfl <| WL.nil <| ?_
      refine W.seq ?_
      refine W.reg ?_ -- 10
      refine WL.p (.mv rfl) rfl <| WL.p (.mv rfl) rfl <| WL.p (.cat rfl rfl (by show _ + (wordAtN x).length ≤ _; omega)) rfl <| WL.p (.cat rfl rfl (by simp only [List.length_append, List.length_cons, List.length_nil]; show _ + (wordAtN x).length + _ ≤ _; omega)) rfl <| WL.p (.as rfl) rfl <| WL.nil <| ?_
      refine W.seq ?_
      refine W.reg ?_ -- 11
      refine WL.p (.as rfl) rfl <| WL.nil <| ?_
      refine W.cut (α := UInt8) (fun t => [(0, .slice p ws.length c), (1, .slice q gs.length d), (5, .slice (some ⟨b1, 0, none⟩) 16 16), (6, .slice (some ⟨b7, 0, none⟩) 7 7), (7, .string (bs (plainT (ws.take s) ++ wordAtN x ++ [32]))), (8, .string (bs (gapT (ws.take s) gs))), (9, .int .i64 (s : Int)), (10, .string (bs (wordAtN x))), (11, .int .i64 (t.toNat : Int))]) (fun t w' => w1 = w' ∧ t = gs[s]?.getD 0) ?_ (fun t w1 hR => ?_)
      · skip
        refine W.seq ?_
        refine W.reg ?_ -- 12
        refine WL.p (.mv rfl) rfl <| WL.p (.mv rfl) rfl <| WL.p (.lenS Tryd.underlying32 rfl) rfl <| WL.p (.lss rfl rfl) rfl <| WL.nil <| ?_
        refine W.cond rfl (fun h23 => ?_) (fun h23 => ?_) -- slot 49
        · have h23' := of_decide_eq_true h23
          have hg256 : (gs[s]'(by omega)).toNat < 256 := UInt8.toNat_lt _
          refine W.reg ?_ -- 13
          refine WL.p (.mv rfl) rfl <| WL.p (.mv rfl) rfl <| WL.p (.ixb Tryd.underlying32 Tryd.sizeOf5 rfl rfl (hb2.isp (by omega)) (s) (by omega) (by omega)) rfl <| WL.r (Rd.ldc (Tryd.isAgg5 _) rfl (hb2.cells (s) (by omega))) rfl <| WL.p (.cvt Tryd.underlying5 Tryd.underlying3 rfl (i64w (by omega))) rfl <| WL.p (.as rfl) rfl <| WL.nil <| ?_
          first
          | exact ⟨gs[s]'(by omega), ⟨rfl, rfl, rfl, rfl, rfl, rfl, rfl, rfl, rfl, trivial⟩, rfl, by rw [List.getElem?_eq_getElem (by omega)]; rfl⟩
          | exact ⟨0, ⟨rfl, rfl, rfl, rfl, rfl, rfl, rfl, rfl, rfl, trivial⟩, rfl, by rw [List.getElem?_eq_none (by omega)]; rfl⟩
        · have h23' := of_decide_eq_false h23
          refine W.skip ?_
          first
          | exact ⟨gs[s]'(by omega), ⟨rfl, rfl, rfl, rfl, rfl, rfl, rfl, rfl, rfl, trivial⟩, rfl, by rw [List.getElem?_eq_getElem (by omega)]; rfl⟩
          | exact ⟨0, ⟨rfl, rfl, rfl, rfl, rfl, rfl, rfl, rfl, rfl, trivial⟩, rfl, by rw [List.getElem?_eq_none (by omega)]; rfl⟩
      obtain ⟨y, rfl⟩ : ∃ y, y = t := ⟨t, rfl⟩
      obtain ⟨rfl, hy⟩ := hR
      rw [← hy] at hst2
      have hy256 : y.toNat < 256 := UInt8.toNat_lt y
      have hfa : (fillA y).length ≤ 6 := fill_len _ _
      have hfz : (fillZ y).length ≤ 6 := fill_len _ _
      refine W.regQ mixed (by kernel_rfl) ?_ -- 14
      refine WQ.p (.mv rfl) rfl <| WQ.p (.mv rfl) rfl <| WQ.p (.mv rfl) rfl <| WQ.p (.iis (((y.toNat % 7 : Nat) : Int)) (.rem rfl rfl (by omega) (Int.tmod_eq_emod_of_nonneg (by omega))) (by omega)) rfl <| WQ.p (.ixb Tryd.underlying46 Tryd.sizeOf9 rfl rfl (hf2.isp (by omega)) (y.toNat % 7) (by omega) (by omega)) rfl <| WQ.r (fun m => Rd.ldc (Tryd.isAgg9 _) rfl ((hf2.drewN m).cells (y.toNat % 7) (by omega))) rfl <| WQ.p (.cat rfl rfl (by show _ + (fillA y).length ≤ _; omega)) rfl <| WQ.p (.mv rfl) rfl <| WQ.p (.cat rfl rfl (by simp only [List.length_append]; show _ + (fillA y).length + (wordAtN x).length ≤ _; omega)) rfl <| WQ.p (.mv rfl) rfl <| WQ.p (.mv rfl) rfl <| WQ.p (.iis (((y.toNat / 7 : Nat) : Int)) (.quo rfl rfl (by omega) (i64q (by omega) (by omega) (by omega))) (by omega)) rfl <| WQ.p (.iis (((y.toNat / 7 % 7 : Nat) : Int)) (.rem rfl rfl (by omega) (Int.tmod_eq_emod_of_nonneg (by omega))) (by omega)) rfl <| WQ.p (.ixb Tryd.underlying46 Tryd.sizeOf9 rfl rfl (hf2.isp (by omega)) (y.toNat / 7 % 7) (by omega) (by omega)) rfl <| WQ.r (fun m => Rd.ldc (Tryd.isAgg9 _) rfl ((hf2.drewN m).cells (y.toNat / 7 % 7) (by omega))) rfl <| WQ.p (.cat rfl rfl (by simp only [List.length_append]; show _ + (fillA y).length + (wordAtN x).length + (fillZ y).length ≤ _; omega)) rfl <| WQ.p (.as rfl) rfl <| WQ.nil (fun w24 dw24 => ?_)
      have hv25 := ha2.drew dw24
      have hv26 := hb2.drew dw24
      have hv27 := hz2.drew dw24
      have hv28 := hf2.drew dw24
      have hB29 := Drew.below hT dw24
      refine W.reg ?_ -- 8
      refine WL.p (.mv rfl) rfl <| WL.p (.iis (((s + 1 : Nat) : Int)) (.add rfl rfl (i64w (by omega))) (by omega)) rfl <| WL.p (.as rfl) rfl <| WL.nil <| ?_
      exact ⟨s + 1, ⟨rfl, rfl, rfl, rfl, lk_s rfl hst1.symm, lk_s rfl hst2.symm, rfl, trivial⟩, ⟨hB29, hv25, hv26, hv27, hv28, by omega⟩, by omega⟩
    · have h22' := of_decide_eq_false h22
      refine W.exit ?_ -- 0
      refine W.seq ?_
      obtain rfl : s = ws.length := by omega
      rw [List.take_length]
      refine W.reg ?_ -- 15
      refine WL.p (.as rfl) rfl <| WL.p (.as rfl) rfl <| WL.nil <| ?_
      refine W.seq ?_
      refine W.seq ?_
      refine W.reg ?_ -- 16
      refine WL.p (.as rfl) rfl <| WL.nil <| ?_
      refine W.block ?_
      -- loop 2: writes [4, 12, 13, 14, 15, 16, 17, 18, 19, 20, 71, 72, 73, 74, 75, 76, 77, 78, 79, 80, 81, 82, 83, 84, 85, 86, 87, 88, 89, 90, 91, 92, 93, 94, 95, 96, 97, 98, 99, 100, 101, 102, 103, 104]; reads from outside [0, 7, 8, 12, 13, 14]
      refine W.loop (α := Nat × Nat × Nat) (fun t => [(0, .slice p ws.length c), (7, .string (bs (plainT ws))), (8, .string (bs (gapT ws gs))), (12, .int .i64 (t.2.1 : Int)), (13, .int .i64 (t.2.2 : Int)), (14, .int .i64 (t.1 : Int))]) (fun t w' => Below w.heap.size w w' ∧ InvB (plainT ws) (gapT ws gs) ws gs t.1 t.2.1 t.2.2 ∧ t.1 ≤ ws.length + 1) (fun t => ws.length + 1 - t.1) ((0, 0, 0)) ⟨rfl, rfl, rfl, rfl, rfl, rfl, trivial⟩ (⟨hT, InvB.start ws gs, by omega⟩) (fun t w1 hR => ?_)
      obtain ⟨i, a, b⟩ := t
      obtain ⟨hT2, hI, hi⟩ := hR
      simp only at hI hi ⊢
      obtain ⟨R, at2, hR1, hR2, hstep⟩ := hI.step
      refine W.seq ?_
      refine W.seq ?_
      refine W.reg ?_ -- 17
      refine WL.p (.mv rfl) rfl <| WL.p (.mv rfl) rfl <| WL.p (.lenS Tryd.underlying32 rfl) rfl <| WL.p (.leq rfl rfl) rfl <| WL.nil <| ?_
      refine W.cond rfl (fun h30 => ?_) (fun h30 => ?_) -- slot 74
      · have h30' := of_decide_eq_true h30
        refine W.skip ?_
        refine W.seq ?_
        refine W.block ?_
        refine W.seq ?_
        refine W.reg ?_ -- 19
        refine WL.p (.mv rfl) rfl <| WL.s2b Tryd.underlying9 Tryd.underlying32 Tryd.underlying5 rfl rfl (fun b31 wb31 cs79 eb31 hs79 hcs79 hub31 hsb31 => ?_)
        have hB32 := Upd.below hT2 (by rw [eb31]; exact hT2.size) hub31
        have hgeb31 : w.heap.size ≤ b31 := by rw [eb31]; exact hT2.size
        refine WL.p (.mv rfl) rfl <| WL.c1 hb24 rfl rfl ((scan_Next (a : Int) _ (plainT ws) _ _ hs79 hcs79 (by omega))) (fun w33 hw33 => ?_)
        have hv34 := BytesAt.below hs79 hw33 (fun h0 => hs79.lt h0)
        have hB35 := btr hB32 hw33
        rw [hR1]
        refine WL.p (.mv rfl) rfl <| WL.p (.ext rfl rfl) rfl <| WL.p (.ext rfl rfl) rfl <| WL.p (.ext rfl rfl) rfl <| WL.alloc Tryd.zeroValue27 rfl (fun b36 wb36 eb36 hkb36 hub36 hsb36 => ?_)
        have hvl38 := fun h0 => eb36 ▸ hv34.lt h0
        have hv37 := BytesAt.upd hv34 hub36 (fun h0 => Nat.ne_of_lt (hvl38 h0))
        have hB39 := Upd.below hB35 (by rw [eb36]; exact hB35.size) hub36
        have hgeb36 : w.heap.size ≤ b36 := by rw [eb36]; exact hB35.size
        refine WL.stL rfl rfl hkb36 isz27 rfl rfl (fun w40 hkw40 huw40 hsw40 => ?_)
        have hv41 := BytesAt.upd hv37 huw40 (fun h0 => Nat.ne_of_lt (hvl38 h0))
        have hB42 := Upd.below hB39 (by omega) huw40
        refine WL.p (.as rfl) rfl <| WL.p (.as rfl) rfl <| WL.nil <| ?_
        refine W.seq ?_
        refine W.reg ?_ -- 20
        refine WL.p (.mv rfl) rfl <| WL.s2b Tryd.underlying9 Tryd.underlying32 Tryd.underlying5 rfl rfl (fun b43 wb43 cs87 eb43 hs87 hcs87 hub43 hsb43 => ?_)
        have hl45 : b36 < b43 := by rw [eb43]; exact hkw40.lt
        have hk44 := hkw40.upd hub43 (Nat.ne_of_lt hl45)
        have hvl47 := fun h0 => eb43 ▸ hv41.lt h0
        have hv46 := BytesAt.upd hv41 hub43 (fun h0 => Nat.ne_of_lt (hvl47 h0))
        have hB48 := Upd.below hB42 (by rw [eb43]; exact hB42.size) hub43
        have hgeb43 : w.heap.size ≤ b43 := by rw [eb43]; exact hB42.size
        refine WL.p (.mv rfl) rfl <| WL.c1 hb24 rfl rfl ((scan_Next (b : Int) _ (gapT ws gs) _ _ hs87 hcs87 (by omega))) (fun w49 hw49 => ?_)
        have hk50 := hk44.below hw49 hk44.lt
        have hv51 := BytesAt.below hv46 hw49 (fun h0 => hv46.lt h0)
        have hv52 := BytesAt.below hs87 hw49 (fun h0 => hs87.lt h0)
        have hB53 := btr hB48 hw49
        rw [hR2]
        refine WL.p (.mv rfl) rfl <| WL.p (.ext rfl rfl) rfl <| WL.p (.ext rfl rfl) rfl <| WL.p (.ext rfl rfl) rfl <| WL.alloc Tryd.zeroValue27 rfl (fun b54 wb54 eb54 hkb54 hub54 hsb54 => ?_)
        have hl56 : b36 < b54 := by rw [eb54]; exact hk50.lt
        have hk55 := hk50.upd hub54 (Nat.ne_of_lt hl56)
        have hvl58 := fun h0 => eb54 ▸ hv51.lt h0
        have hv57 := BytesAt.upd hv51 hub54 (fun h0 => Nat.ne_of_lt (hvl58 h0))
        have hvl60 := fun h0 => eb54 ▸ hv52.lt h0
        have hv59 := BytesAt.upd hv52 hub54 (fun h0 => Nat.ne_of_lt (hvl60 h0))
        have hB61 := Upd.below hB53 (by rw [eb54]; exact hB53.size) hub54
        have hgeb54 : w.heap.size ≤ b54 := by rw [eb54]; exact hB53.size
        refine WL.stL rfl rfl hkb54 isz27 rfl rfl (fun w62 hkw62 huw62 hsw62 => ?_)
        have hk63 := hk55.upd huw62 (by ((try simp only) <;> omega))
        have hv64 := BytesAt.upd hv57 huw62 (fun h0 => Nat.ne_of_lt (hvl58 h0))
        have hv65 := BytesAt.upd hv59 huw62 (fun h0 => Nat.ne_of_lt (hvl60 h0))
        have hB66 := Upd.below hB61 (by omega) huw62
        refine WL.p (.as rfl) rfl <| WL.p (.as rfl) rfl <| WL.nil <| ?_
        refine W.seq ?_
        refine W.seq ?_
        refine W.reg ?_ -- 21
        refine WL.r (Rd.ldA rfl hk63 Tryd.underlying27 rfl isz27) rfl <| WL.r (Rd.ldA rfl hkw62 Tryd.underlying27 rfl isz27) rfl <| WL.p (.bis (false) (.neAgg rfl rfl eg27 (neA27 _ _ _ _ _ _)) (by simp)) rfl <| WL.p (.mv rfl) rfl <| WL.gy rfl rfl rfl rfl <| WL.p (.mv rfl) rfl <| WL.gy rfl rfl rfl rfl <| WL.p (.mv rfl) rfl <| WL.gy rfl rfl rfl rfl <| WL.p (.bis (false) (.neq rfl rfl) (by simp)) rfl <| WL.p (.pkF rfl rfl rfl) rfl <| WL.nil <| ?_
        refine W.condF rfl rfl ?_
        refine W.skip ?_
        refine W.seq ?_
        refine W.seq ?_
        refine W.reg ?_ -- 23
        refine WL.p (.mv rfl) rfl <| WL.p (.neq rfl rfl) rfl <| WL.nil <| ?_
        refine W.cond rfl (fun h67 => ?_) (fun h67 => ?_) -- slot 102
        · have h67' := ndT h67
          refine W.seq ?_
          refine W.reg ?_ -- 24
          refine WL.p (.as rfl) rfl <| WL.nil <| ?_
          refine W.ret (W.ret1 rfl rfl ?_)
          exact ⟨rfl, hB66⟩
        · have h67' := ndF h67
          obtain ⟨a2, b2, ha2, hb2, hI2⟩ := hstep (by assumption)
          refine W.skip ?_
          refine W.reg ?_ -- 25
          refine WL.p (.mv rfl) rfl <| WL.p (.mv rfl) rfl <| WL.p (.as rfl) rfl <| WL.p (.as rfl) rfl <| WL.nil <| ?_
          refine W.reg ?_ -- 18
          refine WL.p (.mv rfl) rfl <| WL.p (.iis (((i + 1 : Nat) : Int)) (.add rfl rfl (i64w (by omega))) (by omega)) rfl <| WL.p (.as rfl) rfl <| WL.nil <| ?_
          exact ⟨(i + 1, a2, b2), ⟨rfl, rfl, rfl, lk_i rfl ha2, lk_i rfl hb2, rfl, trivial⟩, ⟨hB66, hI2, by ((try simp only) <;> omega)⟩, by ((try simp only) <;> omega)⟩
      · have h30' := of_decide_eq_false h30
        refine W.exit ?_ -- 2
        refine W.seq ?_
        refine W.reg ?_ -- 26
        refine WL.c1 hb23 rfl rfl ((answers04 _)) (fun w68 hw68 => ?_)
        have hB69 := btr hT2 hw68
        refine WL.p (.as rfl) rfl <| WL.nil <| ?_
        refine W.ret (W.ret1 rfl rfl ?_)
        exact ⟨rfl, hB69⟩

end Go.Proofs.YteaohajihhpnmaaDoor
