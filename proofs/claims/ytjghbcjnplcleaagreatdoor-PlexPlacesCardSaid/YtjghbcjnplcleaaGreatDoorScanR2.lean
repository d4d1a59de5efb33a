/-
  Scan: the reference's functions on bytes, second part.
-/
import Derived.Test.YtjghbcjnplcleaaGreatDoorScanR
namespace Go.Proofs.YtjghbcjnplcleaaGreatDoor
open Go.RowKit


theorem inf5 : (Tryz.prog.info? 5).map (fun i => (i.zero, i.size, i.bytes)) = some (some (.int .u8 0), 1, 1) := by kernel_rfl

/-- what the reference hands back -/
structure NR where
  k : Int
  n : Int
  s : List UInt8
  at' : Int
  e : Int
abbrev NR.tok (r : NR) : Value := .agg #[.int .i64 r.k, .int .i64 r.n, .string (bs r.s)]
abbrev NR.val (r : NR) : Value := .tuple #[r.tok, .int .i64 r.at', .int .i64 r.e]
def nrOf (l : List UInt8) : TokE → NR
  | .ok (t, r) => ⟨t.kind, t.n, t.text, (l.length - r.length : Nat), 0⟩
  | .error k => ⟨0, 0, [], 0, k⟩
def nameR (k : Int) (l : List UInt8) (a b : Nat) : NR := if 127 < b - a then ⟨0, 0, [], 0, 9⟩ else ⟨k, 0, (l.drop a).take (b - a), b, 0⟩
theorem ret_val {a b : Value} (h : a = b) : Ending.returned a = .returned b := by rw [h]

theorem ref_name (k : Int) (p : Option Addr) (l : List UInt8) (c a b : Nat) (w : World) (hb : BytesAt w p l) (hab : a ≤ b) (hbl : b ≤ l.length) (hc : l.length ≤ c) (hl : l.length ≤ 1000000) :
    Calls Tryz.prog 157 #[.int .i64 k, .slice p l.length c, .int .i64 (a : Int), .int .i64 (b : Int)] w fun e w' => e = .returned (nameR k l a b).val ∧ Below w.heap.size w w' := by
  refine W.enter Tryz.func157 rfl Tryz.ntmps157 (Nat.le_of_ble_eq_true rfl) ?_
  have hB0 := Below.refl (w.heap.size) w
  refine W.seq ?_
  refine W.reg ?_ -- 0
  refine WL.alloc Tryz.zeroValue143 rfl (fun b1 wb1 eb1 hkb1 hub1 hsb1 => ?_)
  have hvl3 := fun h0 => eb1 ▸ hb.lt h0
  have hv2 := BytesAt.upd hb hub1 (fun h0 => Nat.ne_of_lt (hvl3 h0))
  have hB4 := Upd.below hB0 (by rw [eb1]; exact hB0.size) hub1
  have hgeb1 : w.heap.size ≤ b1 := by rw [eb1]; exact hB0.size
  refine WL.p (.as rfl) rfl <| WL.p (.as rfl) rfl <| WL.nil <| ?_
  refine W.seq ?_
  refine W.seq ?_
  refine W.reg ?_ -- 1
  refine WL.p (.mv rfl) rfl <| WL.p (.mv rfl) rfl <| WL.p (.iis (((b - a : Nat) : Int)) (.sub rfl rfl (i64w (by omega))) (by omega)) rfl <| WL.p (.gtr rfl rfl) rfl <| WL.nil <| ?_
  refine W.cond rfl (fun h5 => ?_) (fun h5 => ?_) -- slot 14
  · have h5' := of_decide_eq_true h5
    refine W.seq ?_
    refine W.reg ?_ -- 2
    refine WL.c1 hb154 rfl rfl ((ref_none 9 _)) (fun w6 hw6 => ?_)
    have hk7 := hkb1.below hw6 hkb1.lt
    have hv8 := BytesAt.below hv2 hw6 (fun h0 => hv2.lt h0)
    have hB9 := btr hB4 hw6
    refine WL.p (.ext rfl rfl) rfl <| WL.p (.ext rfl rfl) rfl <| WL.p (.ext rfl rfl) rfl <| WL.stL rfl rfl hk7 isz143 rfl rfl (fun w10 hkw10 huw10 hsw10 => ?_)
    have hv11 := BytesAt.upd hv8 huw10 (fun h0 => Nat.ne_of_lt (hvl3 h0))
    have hB12 := Upd.below hB9 (by omega) huw10
    refine WL.p (.as rfl) rfl <| WL.p (.as rfl) rfl <| WL.nil <| ?_
    refine W.ret (W.retc3 rfl rfl (ldRow hkw10 Tryz.underlying143 rfl isz143) rfl rfl ?_)
    first
    | exact ⟨ret_val (by unfold nameR; rw [if_pos (by omega)]; rfl), hB12⟩
    | exact ⟨ret_val (by unfold nameR; rw [if_neg (by omega)]), hB12⟩
  · have h5' := of_decide_eq_false h5
    refine W.skip ?_
    refine W.seq ?_
    refine W.reg ?_ -- 3
    refine WL.p (.mv rfl) rfl <| WL.p (.mv rfl) rfl <| WL.p (.mv rfl) rfl <| WL.p (.mv rfl) rfl <| WL.p (.slb Tryz.underlying22 Tryz.sizeOf5 rfl rfl rfl  (a) (b) (rfl) (rfl) (hab) (by omega)) rfl <| WL.r (Rd.b2sPart Tryz.underlying22 Tryz.underlying5 Tryz.underlying9 rfl rfl hv2 hab hbl hc) rfl <| ?_
    refine WL.p (.buildL (ps := _) blt143 rfl rfl rfl (by simp only [put1, List.map, List.zip, List.zipWith, List.set] <;> rfl)) rfl ?_
    refine WL.p (.mv rfl) rfl <| WL.stL rfl rfl hkb1 isz143 rfl rfl (fun w13 hkw13 huw13 hsw13 => ?_)
    have hv14 := BytesAt.upd hv2 huw13 (fun h0 => Nat.ne_of_lt (hvl3 h0))
    have hB15 := Upd.below hB4 (by omega) huw13
    refine WL.p (.as rfl) rfl <| WL.p (.as rfl) rfl <| WL.nil <| ?_
    refine W.ret (W.retc3 rfl rfl (ldRow hkw13 Tryz.underlying143 rfl isz143) rfl rfl ?_)
    first
    | exact ⟨ret_val (by unfold nameR; rw [if_pos (by omega)]; rfl), hB15⟩
    | exact ⟨ret_val (by unfold nameR; rw [if_neg (by omega)]), hB15⟩

/-- a string in brackets as the reference hands it back -/
def StrOk (w : World) (B : Nat) (l : List UInt8) (o : Option (List UInt8 × List UInt8)) (v : Value) (at' err : Int) : Prop :=
  match o with
  | none => err = 14
  | some (s, r) => err = 0 ∧ Own 5 B w v (byteVals s) ∧ s.length ≤ l.length ∧ ∃ k : Nat, at' = k ∧ k ≤ l.length ∧ r = l.drop k
def hexI (h : Option Nat) : Int := match h with | none => -1 | some x => x
theorem hexS_cons (h : Option Nat) (o : List UInt8) (l : List UInt8) (t : Nat) (ht : t < l.length) : hexS h o (l.drop t) =
    if blankB l[t] then hexS h o (l.drop (t + 1))
    else if l[t] = 62 then some (match h with | none => o | some x => o ++ [ch (x * 16 : Nat)], l.drop (t + 1))
    else if 15 < hexN l[t] then none else match h with
      | none => hexS (some (hexN l[t])) o (l.drop (t + 1))
      | some x => hexS none (o ++ [ch (x * 16 + hexN l[t] : Nat)]) (l.drop (t + 1)) := by
  rw [List.drop_eq_getElem_cons ht]
  simp only [hexS]
  split
  · rfl
  · split
    · cases h <;> rfl
    · unfold hexD
      by_cases h16 : hexN l[t] < 16
      · rw [if_pos h16, if_neg (by omega)]; cases h <;> rfl
      · rw [if_neg h16, if_pos (by omega)]
theorem ch_val (x : Int) (h0 : 0 ≤ x) (h : x < 256) : ((ch x).toNat : Int) = x := by
  unfold ch
  rw [UInt8.toNat_ofNat']; omega
theorem bF {b : Bool} (h : b = false) : ¬ b = true := by rw [h]; simp
theorem ref_HexS (p : Option Addr) (l : List UInt8) (c a : Nat) (w : World) (hb : BytesAt w p l) (ha : a ≤ l.length) (hl : l.length ≤ 1000000) :
    Calls Tryz.prog 156 #[.slice p l.length c, .int .i64 (a : Int)] w fun e w' => ∃ v, e = .returned v ∧ Below w.heap.size w w' ∧ ∃ u at' err, v = .tuple #[u, .int .i64 at', .int .i64 err] ∧ StrOk w' w.heap.size l (hexS none [] (l.drop (a + 1))) u at' err := by
  obtain ⟨R, hR⟩ : ∃ R, R = hexS none [] (l.drop (a + 1)) := ⟨_, rfl⟩
  rw [← hR]
  have hvB : 0 < l.length → (pA p).block < w.heap.size := hb.lt
  refine W.enter Tryz.func156 rfl Tryz.ntmps156 (Nat.le_of_ble_eq_true rfl) ?_
  have hB0 := Below.refl (w.heap.size) w
  refine W.seq ?_
  refine W.reg ?_ -- 0
  refine WL.p (.as rfl) rfl <| WL.p (.as rfl) rfl <| WL.p (.as rfl) rfl <| WL.nil <| ?_
  refine W.seq ?_
  refine W.reg ?_ -- 1
  refine WL.p (.as rfl) rfl <| WL.nil <| ?_
  refine W.seq ?_
  refine W.reg ?_ -- 2
  refine WL.p (.as rfl) rfl <| WL.nil <| ?_
  refine W.seq ?_
  refine W.seq ?_
  refine W.reg ?_ -- 3
  refine WL.p (.mv rfl) rfl <| WL.p (.add rfl rfl (i64w (by omega))) rfl <| WL.p (.as rfl) rfl <| WL.nil <| ?_
  refine W.block ?_
  -- loop 1: writes [4, 5, 6, 7, 8, 9, 10, 13, 14, 15, 16, 17, 18, 19, 20, 21, 22, 23, 24, 25, 26, 27, 28, 29, 30, 31, 32, 33, 34, 35, 36, 37, 38, 39, 40, 41, 42, 43, 44, 45, 46, 47, 48, 49, 50, 51, 52, 53, 54, 55, 56, 57]; reads from outside [0, 7, 8, 9]
  refine W.loop (α := Value × List UInt8 × Option Nat × Nat) (fun t => [(0, .slice p l.length c), (7, t.1), (8, .int .i64 (hexI t.2.2.1)), (9, .int .i64 (t.2.2.2 : Int))]) (fun t w' => Below w.heap.size w w' ∧ BytesAt w' p l ∧ Own 5 w.heap.size w' t.1 (byteVals t.2.1) ∧ hexS t.2.2.1 t.2.1 (l.drop t.2.2.2) = R ∧ (∀ x, t.2.2.1 = some x → x < 16) ∧ t.2.1.length ≤ t.2.2.2 ∧ t.2.2.2 ≤ l.length + 1) (fun t => l.length + 1 - t.2.2.2) ((.slice none 0 0, [], none, a + 1)) ⟨rfl, rfl, rfl, lk_i rfl (by ((try simp only) <;> omega)), trivial⟩ (⟨Below.refl _ _, hb, Own.nil _ _ _, hR.symm, fun x hx => (by cases hx), Nat.zero_le _, by ((try simp only) <;> omega)⟩) (fun t w1 hR => ?_)
  obtain ⟨v, o, h, t⟩ := t
  obtain ⟨hB', hbv, hown, hw, hx16, hol, ht⟩ := hR
  simp only at hB' hbv hown hw hx16 hol ht ⊢
  refine W.seq ?_
  refine W.seq ?_
  refine W.reg ?_ -- 4
  refine WL.p (.mv rfl) rfl <| WL.p (.mv rfl) rfl <| WL.p (.lenS Tryz.underlying22 rfl) rfl <| WL.p (.lss rfl rfl) rfl <| WL.nil <| ?_
  refine W.cond rfl (fun h1 => ?_) (fun h1 => ?_) -- slot 16
  · have h1' := of_decide_eq_true h1
    refine W.skip ?_
    refine W.seq ?_
    refine W.block ?_
    refine W.seq ?_
    refine W.seq ?_
    refine W.reg ?_ -- 6
    refine WL.p (.mv rfl) rfl <| WL.p (.mv rfl) rfl <| ?_
    have hs := hexS_cons h o l t (by omega)
    refine WL.p (.ixb Tryz.underlying22 Tryz.sizeOf5 rfl rfl (hbv.isp (by omega)) _ rfl (by omega)) rfl <| WL.r (Rd.ldc (Tryz.isAgg5 _) rfl (hbv.cells _ (by omega))) rfl <| WL.c1 hb35 rfl rfl ((ref_Blank _ _)) (fun w2 hw2 => ?_)
    obtain rfl := hw2
    refine WL.nil <| ?_
    refine W.cond rfl (fun h3 => ?_) (fun h3 => ?_) -- slot 23
    · have h3' := h3
      refine W.exit ?_ -- 1
      refine W.reg ?_ -- 5
      refine WL.p (.mv rfl) rfl <| WL.p (.add rfl rfl (i64w (by omega))) rfl <| WL.p (.as rfl) rfl <| WL.nil <| ?_
      first
      | exact ⟨(_, o, h, t + 1), ⟨rfl, rfl, rfl, lk_i rfl (by ((try simp only) <;> omega)), trivial⟩, ⟨hB', hbv, hown, by rw [← hw, hs, if_pos (by assumption)], hx16, by ((try simp only) <;> omega), by ((try simp only) <;> omega)⟩, by ((try simp only) <;> omega)⟩
      | exact ⟨(_, o, some (hexN (l[t]'(by omega))), t + 1), ⟨rfl, rfl, rfl, lk_i rfl (by ((try simp only) <;> omega)), trivial⟩, ⟨hB', hbv, hown, by rw [← hw, hs, if_neg (bF (by assumption)), if_neg (u8_ne (by assumption)), if_neg (by omega)], fun y hy => (by obtain rfl := Option.some.inj hy; omega), by ((try simp only) <;> omega), by ((try simp only) <;> omega)⟩, by ((try simp only) <;> omega)⟩
      | exact ⟨(_, o ++ [_], none, t + 1), ⟨rfl, rfl, rfl, lk_i rfl (by ((try simp only) <;> omega)), trivial⟩, ⟨hB', hbv, hown, by rw [← hw, hs, if_neg (bF (by assumption)), if_neg (u8_ne (by assumption)), if_neg (by omega)], fun y hy => (by cases hy), by simp only [List.length_append, List.length_cons, List.length_nil]; omega, by ((try simp only) <;> omega)⟩, by ((try simp only) <;> omega)⟩
    · have h3' := h3
      refine W.skip ?_
      refine W.seq ?_
      refine W.seq ?_
      refine W.reg ?_ -- 7
      refine WL.p (.mv rfl) rfl <| WL.p (.mv rfl) rfl <| WL.p (.ixb Tryz.underlying22 Tryz.sizeOf5 rfl rfl (hbv.isp (by omega)) _ rfl (by omega)) rfl <| WL.r (Rd.ldc (Tryz.isAgg5 _) rfl (hbv.cells _ (by omega))) rfl <| WL.p (.eql rfl rfl) rfl <| WL.nil <| ?_
      refine W.cond rfl (fun h4 => ?_) (fun h4 => ?_) -- slot 28
      · have h4' := of_decide_eq_true h4
        refine W.seq ?_
        refine W.seq ?_
        refine W.reg ?_ -- 8
        refine WL.p (.mv rfl) rfl <| WL.p (.geq rfl rfl) rfl <| WL.nil <| ?_
        refine W.cond rfl (fun h5 => ?_) (fun h5 => ?_) -- slot 30
        · have h5' := of_decide_eq_true h5
          obtain ⟨x, rfl⟩ : ∃ x, h = some x := by cases h with | none => simp [hexI] at * | some x => exact ⟨x, rfl⟩
          have hx := hx16 x rfl
          have hxi : hexI (some x) = (x : Int) := rfl
          refine W.reg ?_ -- 9
          refine WL.p (.mv rfl) rfl <| WL.p (.mv rfl) rfl <| WL.p (.mul rfl rfl (i64w (by omega))) rfl <| WL.p (.cvt Tryz.underlying3 Tryz.underlying5 rfl (u8w (by omega))) rfl <| WL.bsl (ps := _) Tryz.underlying22 Tryz.sizeOf5 Tryz.zeroValue5 rfl rfl rfl rfl rfl (by simp only [put1, List.map, List.zip, List.zipWith, List.set, List.replicate] <;> rfl) rfl (fun b6 wb6 eb6 hkb6 hub6 hsb6 => ?_)
          have ho7 := Own.new hown eb6 hub6
          have hvl9 := fun h0 => eb6 ▸ hbv.lt h0
          have hv8 := BytesAt.upd hbv hub6 (fun h0 => Nat.ne_of_lt (hvl9 h0))
          have hB10 := Upd.below hB' (by rw [eb6]; exact hB'.size) hub6
          have hgeb6 : w.heap.size ≤ b6 := by rw [eb6]; exact hB'.size
          refine WL.appm Tryz.underlying22 inf5 rfl rfl rfl ho7 rfl hkb6 rfl (by rw [byteVals_len]; omega) (hB10.size) rfl (fun v11 w12 how12 hbw12 hgw12 => ?_)
          have hv13 := BytesAt.below hv8 hbw12 hvB
          have hB14 := Below.trans hB10 (hbw12.mono (Nat.le_refl _))
          have ho15 := Own.snoc how12 (ch ((x * 16 : Nat) : Int)) (by rw [ch_val _ (by omega) (by omega)]; push_cast; omega)
          refine WL.p (.as rfl) rfl <| WL.nil <| ?_
          refine W.seq ?_
          refine W.reg ?_ -- 10
          refine WL.p (.mv rfl) rfl <| WL.p (.mv rfl) rfl <| WL.p (.add rfl rfl (i64w (by omega))) rfl <| WL.p (.as rfl) rfl <| WL.p (.as rfl) rfl <| WL.p (.as rfl) rfl <| WL.nil <| ?_
          refine W.ret (W.ret3 rfl rfl rfl rfl ?_)
          first
          | exact ⟨_, rfl, hB14, _, _, _, rfl, by rw [← hw, hs, if_neg (bF (by assumption)), if_pos (u8_eq (by assumption))]; exact ⟨rfl, ho15, by simp only [List.length_append, List.length_cons, List.length_nil]; omega, t + 1, by omega, by omega, rfl⟩⟩
          | exact ⟨_, rfl, hB14, _, _, _, rfl, by rw [← hw, hs, if_neg (bF (by assumption)), if_neg (u8_ne (by assumption)), if_pos (by omega)]; exact rfl⟩
          | exact ⟨_, rfl, hB14, _, _, _, rfl, by rw [← hw, List.drop_eq_nil_of_le (by omega)]; exact rfl⟩
        · have h5' := of_decide_eq_false h5
          obtain rfl : h = none := by cases h with | none => rfl | some x => simp [hexI] at *
          refine W.skip ?_
          refine W.seq ?_
          refine W.reg ?_ -- 10
          refine WL.p (.mv rfl) rfl <| WL.p (.mv rfl) rfl <| WL.p (.add rfl rfl (i64w (by omega))) rfl <| WL.p (.as rfl) rfl <| WL.p (.as rfl) rfl <| WL.p (.as rfl) rfl <| WL.nil <| ?_
          refine W.ret (W.ret3 rfl rfl rfl rfl ?_)
          first
          | exact ⟨_, rfl, hB', _, _, _, rfl, by rw [← hw, hs, if_neg (bF (by assumption)), if_pos (u8_eq (by assumption))]; exact ⟨rfl, hown, by simp only [List.length_append, List.length_cons, List.length_nil]; omega, t + 1, by omega, by omega, rfl⟩⟩
          | exact ⟨_, rfl, hB', _, _, _, rfl, by rw [← hw, hs, if_neg (bF (by assumption)), if_neg (u8_ne (by assumption)), if_pos (by omega)]; exact rfl⟩
          | exact ⟨_, rfl, hB', _, _, _, rfl, by rw [← hw, List.drop_eq_nil_of_le (by omega)]; exact rfl⟩
      · have h4' := of_decide_eq_false h4
        refine W.skip ?_
        refine W.seq ?_
        refine W.reg ?_ -- 11
        refine WL.p (.mv rfl) rfl <| WL.p (.mv rfl) rfl <| WL.p (.ixb Tryz.underlying22 Tryz.sizeOf5 rfl rfl (hbv.isp (by omega)) _ rfl (by omega)) rfl <| WL.r (Rd.ldc (Tryz.isAgg5 _) rfl (hbv.cells _ (by omega))) rfl <| WL.c1 hb153 rfl rfl ((ref_Hex _ _)) (fun w16 hw16 => ?_)
        obtain rfl := hw16
        refine WL.p (.as rfl) rfl <| WL.nil <| ?_
        refine W.seq ?_
        refine W.seq ?_
        refine W.reg ?_ -- 12
        refine WL.p (.mv rfl) rfl <| WL.p (.gtr rfl rfl) rfl <| WL.nil <| ?_
        refine W.cond rfl (fun h17 => ?_) (fun h17 => ?_) -- slot 46
        · have h17' := of_decide_eq_true h17
          refine W.seq ?_
          refine W.reg ?_ -- 13
          refine WL.p (.as rfl) rfl <| WL.p (.as rfl) rfl <| WL.p (.as rfl) rfl <| WL.nil <| ?_
          refine W.ret (W.ret3 rfl rfl rfl rfl ?_)
          first
          | exact ⟨_, rfl, hB', _, _, _, rfl, by rw [← hw, hs, if_neg (bF (by assumption)), if_pos (u8_eq (by assumption))]; exact ⟨rfl, hown, by simp only [List.length_append, List.length_cons, List.length_nil]; omega, t + 1, by omega, by omega, rfl⟩⟩
          | exact ⟨_, rfl, hB', _, _, _, rfl, by rw [← hw, hs, if_neg (bF (by assumption)), if_neg (u8_ne (by assumption)), if_pos (by omega)]; exact rfl⟩
          | exact ⟨_, rfl, hB', _, _, _, rfl, by rw [← hw, List.drop_eq_nil_of_le (by omega)]; exact rfl⟩
        · have h17' := of_decide_eq_false h17
          refine W.skip ?_
          refine W.seq ?_
          refine W.reg ?_ -- 14
          refine WL.p (.mv rfl) rfl <| WL.p (.lss rfl rfl) rfl <| WL.nil <| ?_
          refine W.cond rfl (fun h18 => ?_) (fun h18 => ?_) -- slot 48
          · have h18' := of_decide_eq_true h18
            obtain rfl : h = none := by cases h with | none => rfl | some x => exfalso; have : hexI (some x) = (x : Int) := rfl; omega
            refine W.reg ?_ -- 15
            refine WL.p (.mv rfl) rfl <| WL.p (.as rfl) rfl <| WL.nil <| ?_
            refine W.reg ?_ -- 5
            refine WL.p (.mv rfl) rfl <| WL.p (.add rfl rfl (i64w (by omega))) rfl <| WL.p (.as rfl) rfl <| WL.nil <| ?_
            first
            | exact ⟨(_, o, h, t + 1), ⟨rfl, rfl, rfl, lk_i rfl (by ((try simp only) <;> omega)), trivial⟩, ⟨hB', hbv, hown, by rw [← hw, hs, if_pos (by assumption)], hx16, by ((try simp only) <;> omega), by ((try simp only) <;> omega)⟩, by ((try simp only) <;> omega)⟩
            | exact ⟨(_, o, some (hexN (l[t]'(by omega))), t + 1), ⟨rfl, rfl, rfl, lk_i rfl (by ((try simp only) <;> omega)), trivial⟩, ⟨hB', hbv, hown, by rw [← hw, hs, if_neg (bF (by assumption)), if_neg (u8_ne (by assumption)), if_neg (by omega)], fun y hy => (by obtain rfl := Option.some.inj hy; omega), by ((try simp only) <;> omega), by ((try simp only) <;> omega)⟩, by ((try simp only) <;> omega)⟩
            | exact ⟨(_, o ++ [_], none, t + 1), ⟨rfl, rfl, rfl, lk_i rfl (by ((try simp only) <;> omega)), trivial⟩, ⟨hB', hbv, hown, by rw [← hw, hs, if_neg (bF (by assumption)), if_neg (u8_ne (by assumption)), if_neg (by omega)], fun y hy => (by cases hy), by simp only [List.length_append, List.length_cons, List.length_nil]; omega, by ((try simp only) <;> omega)⟩, by ((try simp only) <;> omega)⟩
          · have h18' := of_decide_eq_false h18
            obtain ⟨x, rfl⟩ : ∃ x, h = some x := by cases h with | none => exfalso; have : hexI none = -1 := rfl; omega | some x => exact ⟨x, rfl⟩
            have hx := hx16 x rfl
            have hxi : hexI (some x) = (x : Int) := rfl
            refine W.seq ?_
            refine W.reg ?_ -- 16
            refine WL.p (.mv rfl) rfl <| WL.p (.mv rfl) rfl <| WL.p (.mul rfl rfl (i64w (by omega))) rfl <| WL.p (.mv rfl) rfl <| WL.p (.add rfl rfl (i64w (by omega))) rfl <| WL.p (.cvt Tryz.underlying3 Tryz.underlying5 rfl (u8w (by omega))) rfl <| WL.bsl (ps := _) Tryz.underlying22 Tryz.sizeOf5 Tryz.zeroValue5 rfl rfl rfl rfl rfl (by simp only [put1, List.map, List.zip, List.zipWith, List.set, List.replicate] <;> rfl) rfl (fun b19 wb19 eb19 hkb19 hub19 hsb19 => ?_)
            have ho20 := Own.new hown eb19 hub19
            have hvl22 := fun h0 => eb19 ▸ hbv.lt h0
            have hv21 := BytesAt.upd hbv hub19 (fun h0 => Nat.ne_of_lt (hvl22 h0))
            have hB23 := Upd.below hB' (by rw [eb19]; exact hB'.size) hub19
            have hgeb19 : w.heap.size ≤ b19 := by rw [eb19]; exact hB'.size
            refine WL.appm Tryz.underlying22 inf5 rfl rfl rfl ho20 rfl hkb19 rfl (by rw [byteVals_len]; omega) (hB23.size) rfl (fun v24 w25 how25 hbw25 hgw25 => ?_)
            have hv26 := BytesAt.below hv21 hbw25 hvB
            have hB27 := Below.trans hB23 (hbw25.mono (Nat.le_refl _))
            have ho28 := Own.snoc how25 (ch ((x * 16 + hexN (l[t]'(by omega)) : Nat) : Int)) (by rw [ch_val _ (by omega) (by omega)]; push_cast; omega)
            refine WL.p (.as rfl) rfl <| WL.nil <| ?_
            refine W.reg ?_ -- 17
            refine WL.p (.as rfl) rfl <| WL.nil <| ?_
            refine W.reg ?_ -- 5
            refine WL.p (.mv rfl) rfl <| WL.p (.add rfl rfl (i64w (by omega))) rfl <| WL.p (.as rfl) rfl <| WL.nil <| ?_
            first
            | exact ⟨(_, o, h, t + 1), ⟨rfl, rfl, rfl, lk_i rfl (by ((try simp only) <;> omega)), trivial⟩, ⟨hB27, hv26, ho28, by rw [← hw, hs, if_pos (by assumption)], hx16, by ((try simp only) <;> omega), by ((try simp only) <;> omega)⟩, by ((try simp only) <;> omega)⟩
            | exact ⟨(_, o, some (hexN (l[t]'(by omega))), t + 1), ⟨rfl, rfl, rfl, lk_i rfl (by ((try simp only) <;> omega)), trivial⟩, ⟨hB27, hv26, ho28, by rw [← hw, hs, if_neg (bF (by assumption)), if_neg (u8_ne (by assumption)), if_neg (by omega)], fun y hy => (by obtain rfl := Option.some.inj hy; omega), by ((try simp only) <;> omega), by ((try simp only) <;> omega)⟩, by ((try simp only) <;> omega)⟩
            | exact ⟨(_, o ++ [_], none, t + 1), ⟨rfl, rfl, rfl, lk_i rfl (by ((try simp only) <;> omega)), trivial⟩, ⟨hB27, hv26, ho28, by rw [← hw, hs, if_neg (bF (by assumption)), if_neg (u8_ne (by assumption)), if_neg (by omega)], fun y hy => (by cases hy), by simp only [List.length_append, List.length_cons, List.length_nil]; omega, by ((try simp only) <;> omega)⟩, by ((try simp only) <;> omega)⟩
  · have h1' := of_decide_eq_false h1
    refine W.exit ?_ -- 0
    refine W.seq ?_
    refine W.reg ?_ -- 18
    refine WL.p (.as rfl) rfl <| WL.p (.as rfl) rfl <| WL.p (.as rfl) rfl <| WL.nil <| ?_
    refine W.ret (W.ret3 rfl rfl rfl rfl ?_)
    first
    | exact ⟨_, rfl, hB', _, _, _, rfl, by rw [← hw, hs, if_neg (bF (by assumption)), if_pos (u8_eq (by assumption))]; exact ⟨rfl, hown, by simp only [List.length_append, List.length_cons, List.length_nil]; omega, t + 1, by omega, by omega, rfl⟩⟩
    | exact ⟨_, rfl, hB', _, _, _, rfl, by rw [← hw, hs, if_neg (bF (by assumption)), if_neg (u8_ne (by assumption)), if_pos (by omega)]; exact rfl⟩
    | exact ⟨_, rfl, hB', _, _, _, rfl, by rw [← hw, List.drop_eq_nil_of_le (by omega)]; exact rfl⟩

end Go.Proofs.YtjghbcjnplcleaaGreatDoor
