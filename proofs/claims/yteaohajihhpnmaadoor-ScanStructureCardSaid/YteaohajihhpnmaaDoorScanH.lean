/-
  Scan: the program's reader, third part: hexadecimal strings.
-/
import Derived.Test.YteaohajihhpnmaaDoorScanN
namespace Go.Proofs.YteaohajihhpnmaaDoor
open Go.RowKit

theorem or_16 (h d : Nat) (hh : h < 16) (hd : d < 16) : bits .or .i64 ((h : Int) * 16) (d : Int) = (h : Int) * 16 + d := by
  have key : ∀ h d : Fin 16, bits .or .i64 ((h.1 : Int) * 16) (d.1 : Int) = (h.1 : Int) * 16 + d.1 := by decide +kernel
  exact key ⟨h, hh⟩ ⟨d, hd⟩
theorem Pure.shl4 {P : Program} {f : Fr} {x : Operand} {tx ty : TypeId} {a : Int} (hx : evo f x = some (.int .i64 a)) (r : Int) (hr : IntKind.i64.wrap (a * 16) = r) : Pure P (.binOp .shl tx x (.const (.int .u64 4)) ty) f (.int .i64 r) := fun ρ hρ d ty' pos aft g w => by
  have h4 : ρ (.const (.int .u64 4)) = .int .u64 4 := hρ _ _ rfl
  simp [execOp, hρ _ _ hx, h4, eqGuard, binOp, shift_shl_i64, hr]
theorem Pure.or {P : Program} {f : Fr} {x y : Operand} {k : IntKind} {tx ty : TypeId} {a b r : Int} (hx : evo f x = some (.int k a)) (hy : evo f y = some (.int k b)) (hr : bits .or k a b = r) : Pure P (.binOp .or tx x y ty) f (.int k r) := fun ρ hρ d ty' pos aft g w => by
  simp [execOp, hρ _ _ hx, hρ _ _ hy, eqGuard, binOp, intBits_or, hr]

theorem takeS_err {l : List UInt8} {t : Nat} {k : Int} (h : takeS l t = .error k) : l.length ≤ t ∧ k = 14 := by
  unfold takeS at h
  split at h
  · cases h
  · next h1 => cases h; exact ⟨List.getElem?_eq_none_iff.1 h1, rfl⟩
theorem takeS_ok {l : List UInt8} {t : Nat} {x : UInt8} (h : takeS l t = .ok x) : ∃ ht : t < l.length, x = l[t]'ht := by
  unfold takeS at h
  split at h
  · next h1 => cases h; obtain ⟨h2, h3⟩ := List.getElem?_eq_some_iff.1 h1; exact ⟨h2, h3.symm⟩
  · cases h
theorem textS_err {e : Int} {s r : List UInt8} (h : (if 65535 < s.length then (.error 9 : Except Int TokV) else .ok ⟨6, 0, s⟩) = .error e) : textS (some (s, r)) = .error e := by
  simp only [textS]
  split at h
  · next h1 => rw [if_pos h1]; cases h; rfl
  · cases h
theorem textS_ok {s r : List UInt8} {a : TokV} (h : (if 65535 < s.length then (.error 9 : Except Int TokV) else .ok ⟨6, 0, s⟩) = .ok a) : textS (some (s, r)) = .ok (a, r) := by
  simp only [textS]
  split at h
  · cases h
  · next h1 => rw [if_neg h1]; cases h; rfl
theorem scan_hex (r : Nat) (p : Option Addr) (l : List UInt8) (c t : Nat) (w : World) (h : RdOk w r p l c t) (hne : 0 < l.length → (pA p).block ≠ r) (hc : l.length ≤ c) (hl : l.length ≤ 1000000) (ht : t ≤ l.length) :
    Calls Tryd.prog 104 #[.pointer (some ⟨r, 0, none⟩)] w (Ends 28 (textS (hexS none [] (l.drop t))) (fun a => a.1.val) (Read w r p l c) (fun w' => Touch w.heap.size r w w')) := by
  have hr := h.1
  have hb := h.2
  obtain ⟨R, hR⟩ : ∃ R, R = hexS none [] (l.drop t) := ⟨_, rfl⟩
  rw [← hR]
  obtain ⟨a, rfl⟩ : ∃ a, a = t := ⟨t, rfl⟩
  refine W.enter Tryd.func104 rfl Tryd.ntmps104 (Nat.le_of_ble_eq_true rfl) ?_
  have hB0 := Touch.refl (w.heap.size) r w
  refine W.seq ?_
  refine W.reg ?_ -- 0
  refine WL.alloc Tryd.zeroValue27 rfl (fun b1 wb1 eb1 hkb1 hub1 hsb1 => ?_)
  have hl3 : r < b1 := by rw [eb1]; exact hr.lt
  have hk2 := hr.upd hub1 (Nat.ne_of_lt hl3)
  have hvl5 := fun h0 => eb1 ▸ hb.lt h0
  have hv4 := BytesAt.upd hb hub1 (fun h0 => Nat.ne_of_lt (hvl5 h0))
  have hgeb1 : w.heap.size ≤ b1 := by rw [eb1]; exact hB0.size
  have hB6 := Touch.trans hB0 (Touch.of_new hub1 hgeb1)
  refine WL.nil <| ?_
  refine W.seq ?_
  have hpB : 0 < l.length → (pA p).block < b1 + 1 := fun h0 => by have := hb.lt h0; omega
  have hrB : r < b1 := by have := hr.lt; omega
  refine W.reg ?_ -- 1
  refine WL.p (.as rfl) rfl <| WL.nil <| ?_
  refine W.seq ?_
  refine W.reg ?_ -- 2
  refine WL.p (.as rfl) rfl <| WL.nil <| ?_
  refine W.seq ?_
  refine W.block ?_
  -- loop 1: writes [3, 4, 5, 6, 7, 8, 9, 10, 11, 12, 13, 14, 15, 16, 17, 18, 19, 20, 21, 22, 23, 24, 25, 26, 27, 28, 29, 30]; reads from outside [0, 3, 4]
  refine W.loop (α := Value × List UInt8 × Option Nat × Nat) (fun t => [(0, .pointer (some ⟨r, 0, none⟩)), (2, .pointer (some ⟨b1, 0, none⟩)), (3, t.1), (4, .int .i64 (hexI t.2.2.1))]) (fun t w' => RdOk w' r p l c t.2.2.2 ∧ Touch w.heap.size r w w' ∧ Blk w' b1 #[.int .i64 0, .int .i64 0, .string ⟨#[]⟩] 27 ∧ Own 5 (b1 + 1) w' t.1 (byteVals t.2.1) ∧ hexS t.2.2.1 t.2.1 (l.drop t.2.2.2) = R ∧ (∀ x, t.2.2.1 = some x → x < 16) ∧ t.2.1.length ≤ t.2.2.2 ∧ t.2.2.2 ≤ l.length) (fun t => l.length - t.2.2.2) ((.slice none 0 0, [], none, a)) ⟨rfl, rfl, rfl, rfl, trivial⟩ (⟨⟨hk2, hv4⟩, hB6, hkb1, Own.nil _ _ _, hR.symm, fun x hx => (by cases hx), Nat.zero_le _, ht⟩) (fun t w1 hR => ?_)
  obtain ⟨v, o, h, s⟩ := t
  obtain ⟨hrd, hT, hbk, hown, hw, hx16, hol, hs⟩ := hR
  simp only at hrd hT hbk hown hw hx16 hol hs ⊢
  refine W.block ?_
  refine W.seq ?_
  refine W.reg ?_ -- 3
  refine WL.p (.mv rfl) rfl <| WL.ce hb100 rfl rfl ((scan_take r p l c s _ ⟨hrd.1, hrd.2⟩ hne hl)) (fun k9 w7 hrw7 hw7 => ?_) (fun a8 w7 hrw7 hw7 => ?_)
  · skip
    have hBew7 := Touch.trans hT (Touch.mono hw7 hT.size)
    exact pn_is (Ends.err k9 (by rw [(takeS_err hrw7).2, ← hw, List.drop_eq_nil_of_le (takeS_err hrw7).1]; (first | done | rfl)) hBew7)
  · skip
    have ho10 := Own.touch' hown hw7.2 (by omega)
    have hk11 := hw7.1.1
    have hk12 := Blk.touch hbk hw7.2 hbk.lt (by omega)
    have hv13 := hw7.1.2
    have hB14 := Touch.trans hT (Touch.mono hw7.2 hT.size)
    obtain ⟨hlt, hx⟩ := takeS_ok hrw7
    obtain ⟨x, hxx⟩ : ∃ x, x = a8 := ⟨_, rfl⟩
    rw [← hxx] at hx ⊢
    have hst := hexS_cons h o l s hlt
    rw [← hx] at hst
    refine WL.p (.as rfl) rfl <| WL.nil <| ?_
    refine W.seq ?_
    refine W.seq ?_
    refine W.reg ?_ -- 4
    refine WL.p (.mv rfl) rfl <| WL.c1 hb99 rfl rfl ((scan_blank x _)) (fun w15 hw15 => ?_)
    obtain rfl := hw15
    refine WL.nil <| ?_
    refine W.cond rfl (fun h16 => ?_) (fun h16 => ?_) -- slot 10
    · have h16' := h16
      refine W.exit ?_ -- 1
      first
      | exact ⟨(_, o, h, s + 1), ⟨rfl, rfl, rfl, rfl, trivial⟩, ⟨⟨hk11, hv13⟩, hB14, hk12, ho10, (by rw [← hw, hst, if_pos (by assumption)]), hx16, by ((try simp only) <;> omega), by ((try simp only) <;> omega)⟩, by ((try simp only) <;> omega)⟩
      | exact ⟨(_, o, some (hexN x), s + 1), ⟨rfl, rfl, rfl, lk_i rfl (by show digI x = (hexN x : Int); omega), trivial⟩, ⟨⟨hk11, hv13⟩, hB14, hk12, ho10, (by rw [← hw, hst, if_neg (bF (by assumption)), if_neg (u8_ne (d := 62) (by assumption)), if_neg (by omega)]), fun z hz => (by obtain rfl := Option.some.inj hz; omega), by ((try simp only) <;> omega), by ((try simp only) <;> omega)⟩, by ((try simp only) <;> omega)⟩
      | exact ⟨(_, o ++ [_], none, s + 1), ⟨rfl, rfl, rfl, rfl, trivial⟩, ⟨⟨hk11, hv13⟩, hB14, hk12, ho10, (by rw [← hw, hst, if_neg (bF (by assumption)), if_neg (u8_ne (d := 62) (by assumption)), if_neg (by omega)]), fun z hz => (by cases hz), (by simp only [List.length_append, List.length_cons, List.length_nil]; omega), by ((try simp only) <;> omega)⟩, by ((try simp only) <;> omega)⟩
    · have h16' := h16
      refine W.skip ?_
      refine W.seq ?_
      refine W.seq ?_
      refine W.reg ?_ -- 5
      refine WL.p (.mv rfl) rfl <| WL.p (.eql rfl rfl) rfl <| WL.nil <| ?_
      refine W.cond rfl (fun h17 => ?_) (fun h17 => ?_) -- slot 12
      · have h17' := of_decide_eq_true h17
        refine W.exit ?_ -- 0
        refine W.seq ?_
        refine W.seq ?_
        refine W.reg ?_ -- 13
        refine WL.p (.mv rfl) rfl <| WL.p (.geq rfl rfl) rfl <| WL.nil <| ?_
        refine W.cond rfl (fun h18 => ?_) (fun h18 => ?_) -- slot 32
        · have h18' := of_decide_eq_true h18
          obtain ⟨y, rfl⟩ : ∃ y, h = some y := by cases h with | none => exfalso; have : hexI none = -1 := rfl; omega | some y => exact ⟨y, rfl⟩
          have hy := hx16 y rfl
          have hyi : hexI (some y) = (y : Int) := rfl
          refine W.reg ?_ -- 14
          refine WL.p (.mv rfl) rfl <| WL.p (.mv rfl) rfl <| WL.p (.iis ((y : Int) * 16) (.shl4 rfl _ (i64w (by omega))) (by omega)) rfl <| WL.p (.cvt Tryd.underlying3 Tryd.underlying5 rfl (u8w (by omega))) rfl <| WL.bsl (ps := _) Tryd.underlying32 Tryd.sizeOf5 Tryd.zeroValue5 rfl rfl rfl rfl rfl (by simp only [put1, List.map, List.zip, List.zipWith, List.set, List.replicate] <;> rfl) rfl (fun b19 wb19 eb19 hkb19 hub19 hsb19 => ?_)
          have ho20 := Own.new ho10 eb19 hub19
          have hl22 : r < b19 := by rw [eb19]; exact hk11.lt
          have hk21 := hk11.upd hub19 (Nat.ne_of_lt hl22)
          have hl24 : b1 < b19 := by rw [eb19]; exact hk12.lt
          have hk23 := hk12.upd hub19 (Nat.ne_of_lt hl24)
          have hvl26 := fun h0 => eb19 ▸ hv13.lt h0
          have hv25 := BytesAt.upd hv13 hub19 (fun h0 => Nat.ne_of_lt (hvl26 h0))
          have hgeb19 : w.heap.size ≤ b19 := by rw [eb19]; exact hB14.size
          have hB27 := Touch.trans hB14 (Touch.of_new hub19 hgeb19)
          refine WL.appm Tryd.underlying32 inf5 rfl rfl rfl ho20 rfl hkb19 rfl (by rw [byteVals_len]; omega) (hk23.lt) rfl (fun v28 w29 how29 hbw29 hgw29 => ?_)
          have hk30 := hk21.below hbw29 (by omega)
          have hk31 := hk23.below hbw29 (by omega)
          have hv32 := BytesAt.below hv25 hbw29 hpB
          have hB33 := Touch.trans hB27 (Touch.of_below (hbw29.mono (by omega)))
          have ho34 := Own.snoc how29 (ch ((y * 16 : Nat) : Int)) (by rw [ch_val _ (by omega) (by omega)]; omega)
          refine WL.p (.as rfl) rfl <| WL.nil <| ?_
          refine W.seq ?_
          obtain ⟨q, cq, rfl, hqb, hqB⟩ := Own.bytes ho34
          refine W.reg ?_ -- 15
          refine WL.p (.mv rfl) rfl <| WL.ce hb103 rfl rfl ((scan_text q _ cq _ hqb (by first | omega | (simp only [List.length_append, List.length_cons, List.length_nil]; omega)))) (fun k37 w35 hrw35 hw35 => ?_) (fun a36 w35 hrw35 hw35 => ?_)
          · skip
            have hBew35 := Touch.trans hB33 (Touch.mono (Touch.of_below hw35) hB33.size)
            exact pn_is (Ends.err k37 (by rw [← hw, hst, if_neg (bF (by assumption)), if_pos (u8_eq (d := 62) (by assumption))]; exact textS_err hrw35) hBew35)
          · skip
            have ho38 := Own.below ho34 hw35
            have hk39 := hk30.below hw35 hk30.lt
            have hk40 := hk31.below hw35 hk31.lt
            have hv41 := BytesAt.below hv32 hw35 (fun h0 => hv32.lt h0)
            have hB42 := Touch.trans hB33 (Touch.mono (Touch.of_below hw35) hB33.size)
            obtain ⟨a0, ha0⟩ : ∃ a0, a0 = a36 := ⟨_, rfl⟩
            have hra := hrw35
            refine WL.stL rfl rfl hk40 isz27 rfl rfl (fun w43 hkw43 huw43 hsw43 => ?_)
            have ho44 := Own.touch ho38 huw43 (by omega)
            have hk45 := hk39.upd huw43 (by ((try simp only) <;> omega))
            have hv46 := BytesAt.upd hv41 huw43 (fun h0 => Nat.ne_of_lt (hvl5 h0))
            have hB47 := Touch.trans hB42 (Touch.of_new huw43 (by omega))
            refine WL.nil <| ?_
            refine W.ret (W.retc1 rfl rfl (ldRow hkw43 Tryd.underlying27 rfl isz27)  ?_)
            exact Ends.ok (_, l.drop (s + 1)) (by rw [← hw, hst, if_neg (bF (by assumption)), if_pos (u8_eq (d := 62) (by assumption))]; exact textS_ok hra) rfl ⟨_, rfl, by omega, ⟨hk45, hv46⟩, hB47⟩
        · have h18' := of_decide_eq_false h18
          obtain rfl : h = none := by cases h with | none => rfl | some y => exfalso; have : hexI (some y) = (y : Int) := rfl; omega
          refine W.skip ?_
          refine W.seq ?_
          obtain ⟨q, cq, rfl, hqb, hqB⟩ := Own.bytes ho10
          refine W.reg ?_ -- 15
          refine WL.p (.mv rfl) rfl <| WL.ce hb103 rfl rfl ((scan_text q _ cq _ hqb (by first | omega | (simp only [List.length_append, List.length_cons, List.length_nil]; omega)))) (fun k50 w48 hrw48 hw48 => ?_) (fun a49 w48 hrw48 hw48 => ?_)
          · skip
            have hBew48 := Touch.trans hB14 (Touch.mono (Touch.of_below hw48) hB14.size)
            exact pn_is (Ends.err k50 (by rw [← hw, hst, if_neg (bF (by assumption)), if_pos (u8_eq (d := 62) (by assumption))]; exact textS_err hrw48) hBew48)
          · skip
            have ho51 := Own.below ho10 hw48
            have hk52 := hk11.below hw48 hk11.lt
            have hk53 := hk12.below hw48 hk12.lt
            have hv54 := BytesAt.below hv13 hw48 (fun h0 => hv13.lt h0)
            have hB55 := Touch.trans hB14 (Touch.mono (Touch.of_below hw48) hB14.size)
            obtain ⟨a0, ha0⟩ : ∃ a0, a0 = a49 := ⟨_, rfl⟩
            have hra := hrw48
            refine WL.stL rfl rfl hk53 isz27 rfl rfl (fun w56 hkw56 huw56 hsw56 => ?_)
            have ho57 := Own.touch ho51 huw56 (by omega)
            have hk58 := hk52.upd huw56 (by ((try simp only) <;> omega))
            have hv59 := BytesAt.upd hv54 huw56 (fun h0 => Nat.ne_of_lt (hvl5 h0))
            have hB60 := Touch.trans hB55 (Touch.of_new huw56 (by omega))
            refine WL.nil <| ?_
            refine W.ret (W.retc1 rfl rfl (ldRow hkw56 Tryd.underlying27 rfl isz27)  ?_)
            exact Ends.ok (_, l.drop (s + 1)) (by rw [← hw, hst, if_neg (bF (by assumption)), if_pos (u8_eq (d := 62) (by assumption))]; exact textS_ok hra) rfl ⟨_, rfl, by omega, ⟨hk58, hv59⟩, hB60⟩
      · have h17' := of_decide_eq_false h17
        refine W.skip ?_
        refine W.seq ?_
        refine W.reg ?_ -- 6
        refine WL.p (.mv rfl) rfl <| WL.c1 hb118 rfl rfl ((scan_digit x _)) (fun w61 hw61 => ?_)
        obtain rfl := hw61
        have hdg := digI_cases x
        refine WL.p (.as rfl) rfl <| WL.nil <| ?_
        refine W.block ?_
        refine W.seq ?_
        refine W.reg ?_ -- 9
        refine WL.p (.mv rfl) rfl <| WL.p (.lss rfl rfl) rfl <| WL.p (.as rfl) rfl <| WL.nil <| ?_
        refine W.cond rfl (fun h62 => ?_) (fun h62 => ?_) -- slot 23
        · have h62' := of_decide_eq_true h62
          refine W.reg ?_ -- 10
          refine WL.p (.mkI Tryd.underlying28 rfl) rfl <| WL.panic rfl (pn_is ?_)
          exact Ends.err 14 (by rw [← hw, hst, if_neg (bF (by assumption)), if_neg (u8_ne (d := 62) (by assumption)), if_pos (by omega)]; (first | done | rfl)) hB14
        · have h62' := of_decide_eq_false h62
          refine W.seq ?_
          refine W.reg ?_ -- 11
          refine WL.p (.mv rfl) rfl <| WL.p (.lss rfl rfl) rfl <| WL.p (.as rfl) rfl <| WL.nil <| ?_
          refine W.cond rfl (fun h63 => ?_) (fun h63 => ?_) -- slot 27
          · have h63' := of_decide_eq_true h63
            obtain rfl : h = none := by cases h with | none => rfl | some y => exfalso; have : hexI (some y) = (y : Int) := rfl; omega
            refine W.reg ?_ -- 12
            refine WL.p (.mv rfl) rfl <| WL.p (.as rfl) rfl <| WL.nil <| ?_
            first
            | exact ⟨(_, o, h, s + 1), ⟨rfl, rfl, rfl, rfl, trivial⟩, ⟨⟨hk11, hv13⟩, hB14, hk12, ho10, (by rw [← hw, hst, if_pos (by assumption)]), hx16, by ((try simp only) <;> omega), by ((try simp only) <;> omega)⟩, by ((try simp only) <;> omega)⟩
            | exact ⟨(_, o, some (hexN x), s + 1), ⟨rfl, rfl, rfl, lk_i rfl (by show digI x = (hexN x : Int); omega), trivial⟩, ⟨⟨hk11, hv13⟩, hB14, hk12, ho10, (by rw [← hw, hst, if_neg (bF (by assumption)), if_neg (u8_ne (d := 62) (by assumption)), if_neg (by omega)]), fun z hz => (by obtain rfl := Option.some.inj hz; omega), by ((try simp only) <;> omega), by ((try simp only) <;> omega)⟩, by ((try simp only) <;> omega)⟩
            | exact ⟨(_, o ++ [_], none, s + 1), ⟨rfl, rfl, rfl, rfl, trivial⟩, ⟨⟨hk11, hv13⟩, hB14, hk12, ho10, (by rw [← hw, hst, if_neg (bF (by assumption)), if_neg (u8_ne (d := 62) (by assumption)), if_neg (by omega)]), fun z hz => (by cases hz), (by simp only [List.length_append, List.length_cons, List.length_nil]; omega), by ((try simp only) <;> omega)⟩, by ((try simp only) <;> omega)⟩
          · have h63' := of_decide_eq_false h63
            obtain ⟨y, rfl⟩ : ∃ y, h = some y := by cases h with | none => exfalso; have : hexI none = -1 := rfl; omega | some y => exact ⟨y, rfl⟩
            have hy := hx16 y rfl
            have hyi : hexI (some y) = (y : Int) := rfl
            refine W.seq ?_
            refine W.reg ?_ -- 7
            refine WL.p (.mv rfl) rfl <| WL.p (.mv rfl) rfl <| WL.p (.iis ((y : Int) * 16) (.shl4 rfl _ (i64w (by omega))) (by omega)) rfl <| WL.p (.mv rfl) rfl <| WL.p (.or rfl rfl (show bits .or .i64 ((y : Int) * 16) (digI x) = (y : Int) * 16 + (hexN x : Int) by rw [(hdg.resolve_left (fun h => by have := h.1; omega)).1]; exact or_16 _ _ hy (by omega))) rfl <| WL.p (.cvt Tryd.underlying3 Tryd.underlying5 rfl (u8w (by omega))) rfl <| WL.bsl (ps := _) Tryd.underlying32 Tryd.sizeOf5 Tryd.zeroValue5 rfl rfl rfl rfl rfl (by simp only [put1, List.map, List.zip, List.zipWith, List.set, List.replicate] <;> rfl) rfl (fun b64 wb64 eb64 hkb64 hub64 hsb64 => ?_)
            have ho65 := Own.new ho10 eb64 hub64
            have hl67 : r < b64 := by rw [eb64]; exact hk11.lt
            have hk66 := hk11.upd hub64 (Nat.ne_of_lt hl67)
            have hl69 : b1 < b64 := by rw [eb64]; exact hk12.lt
            have hk68 := hk12.upd hub64 (Nat.ne_of_lt hl69)
            have hvl71 := fun h0 => eb64 ▸ hv13.lt h0
            have hv70 := BytesAt.upd hv13 hub64 (fun h0 => Nat.ne_of_lt (hvl71 h0))
            have hgeb64 : w.heap.size ≤ b64 := by rw [eb64]; exact hB14.size
            have hB72 := Touch.trans hB14 (Touch.of_new hub64 hgeb64)
            refine WL.appm Tryd.underlying32 inf5 rfl rfl rfl ho65 rfl hkb64 rfl (by rw [byteVals_len]; omega) (hk68.lt) rfl (fun v73 w74 how74 hbw74 hgw74 => ?_)
            have hk75 := hk66.below hbw74 (by omega)
            have hk76 := hk68.below hbw74 (by omega)
            have hv77 := BytesAt.below hv70 hbw74 hpB
            have hB78 := Touch.trans hB72 (Touch.of_below (hbw74.mono (by omega)))
            have ho79 := Own.snoc how74 (ch ((y * 16 + hexN x : Nat) : Int)) (by rw [ch_val _ (by omega) (by omega)]; omega)
            refine WL.p (.as rfl) rfl <| WL.nil <| ?_
            refine W.reg ?_ -- 8
            refine WL.p (.as rfl) rfl <| WL.nil <| ?_
            first
            | exact ⟨(_, o, h, s + 1), ⟨rfl, rfl, rfl, rfl, trivial⟩, ⟨⟨hk75, hv77⟩, hB78, hk76, ho79, (by rw [← hw, hst, if_pos (by assumption)]), hx16, by ((try simp only) <;> omega), by ((try simp only) <;> omega)⟩, by ((try simp only) <;> omega)⟩
            | exact ⟨(_, o, some (hexN x), s + 1), ⟨rfl, rfl, rfl, lk_i rfl (by show digI x = (hexN x : Int); omega), trivial⟩, ⟨⟨hk75, hv77⟩, hB78, hk76, ho79, (by rw [← hw, hst, if_neg (bF (by assumption)), if_neg (u8_ne (d := 62) (by assumption)), if_neg (by omega)]), fun z hz => (by obtain rfl := Option.some.inj hz; omega), by ((try simp only) <;> omega), by ((try simp only) <;> omega)⟩, by ((try simp only) <;> omega)⟩
            | exact ⟨(_, o ++ [_], none, s + 1), ⟨rfl, rfl, rfl, rfl, trivial⟩, ⟨⟨hk75, hv77⟩, hB78, hk76, ho79, (by rw [← hw, hst, if_neg (bF (by assumption)), if_neg (u8_ne (d := 62) (by assumption)), if_neg (by omega)]), fun z hz => (by cases hz), (by simp only [List.length_append, List.length_cons, List.length_nil]; omega), by ((try simp only) <;> omega)⟩, by ((try simp only) <;> omega)⟩

theorem BytesAt.two {w : World} {b : Nat} {c d : UInt8} {t : TypeId} (h : Blk w b #[.int .u8 (c.toNat : Int), .int .u8 (d.toNat : Int)] t) : BytesAt w (some ⟨b, 0, none⟩) [c, d] :=
  ⟨fun _ => rfl, fun j hj => by
    have e1 : (pA (some ⟨b, 0, none⟩)).add j = ⟨b, j, none⟩ := by
      show (⟨b, 0, none⟩ : Addr).add j = _
      unfold Addr.add; split
      · next h => subst h; rfl
      · simp
    rw [e1, h.cell j]
    match j, hj with
    | 0, _ => rfl
    | 1, _ => rfl⟩
theorem scan_angle (r : Nat) (p : Option Addr) (l : List UInt8) (c t : Nat) (x : UInt8) (w : World) (h : RdOk w r p l c t) (hne : 0 < l.length → (pA p).block ≠ r) (hc : l.length ≤ c) (hl : l.length ≤ 1000000) (ht : t ≤ l.length) (hx : x ≠ 0) :
    Calls Tryd.prog 78 #[.pointer (some ⟨r, 0, none⟩), .int .u8 (x.toNat : Int)] w (Ends 28 (angleS x (l.drop t)) (fun a => a.1.val) (Read w r p l c) (fun w' => Touch w.heap.size r w w')) := by
  have hr := h.1
  have hb := h.2
  have hy := angle_eq (l := l) (s := t) (c := x) (d := (l[t]?).getD 0) hx rfl
  refine W.enter Tryd.func78 rfl Tryd.ntmps78 (Nat.le_of_ble_eq_true rfl) ?_
  have hB0 := Touch.refl (w.heap.size) r w
  refine W.seq ?_
  refine W.reg ?_ -- 0
  refine WL.alloc Tryd.zeroValue27 rfl (fun b1 wb1 eb1 hkb1 hub1 hsb1 => ?_)
  have hl3 : r < b1 := by rw [eb1]; exact hr.lt
  have hk2 := hr.upd hub1 (Nat.ne_of_lt hl3)
  have hvl5 := fun h0 => eb1 ▸ hb.lt h0
  have hv4 := BytesAt.upd hb hub1 (fun h0 => Nat.ne_of_lt (hvl5 h0))
  have hgeb1 : w.heap.size ≤ b1 := by rw [eb1]; exact hB0.size
  have hB6 := Touch.trans hB0 (Touch.of_new hub1 hgeb1)
  refine WL.nil <| ?_
  refine W.seq ?_
  refine W.block ?_
  refine W.seq ?_
  refine W.reg ?_ -- 1
  refine WL.p (.mv rfl) rfl <| WL.p (.mv rfl) rfl <| WL.c1 hb102 rfl rfl ((scan_next r p l c t x _ ⟨hk2, hv4⟩ hne hl ht)) (fun w7 hw7 => ?_)
  have hk8 := hw7.1.1
  have hk9 := Blk.touch hkb1 hw7.2 hkb1.lt (by omega)
  have hv10 := hw7.1.2
  have hB11 := Touch.trans hB6 (Touch.mono hw7.2 hB6.size)
  refine WL.p (.as rfl) rfl <| WL.nil <| ?_
  refine W.cond rfl (fun h12 => ?_) (fun h12 => ?_) -- slot 5
  · have h12' := h12
    obtain ⟨hn1, hn2⟩ := nextB_t (x := x) (by assumption)
    rw [if_pos (by assumption)] at hk8
    rw [if_pos (by rw [List.getElem?_eq_getElem hn1, hn2]; rfl)] at hy
    refine W.seq ?_
    refine W.reg ?_ -- 2
    refine WL.p (.mv rfl) rfl <| WL.p (.mv rfl) rfl <| WL.bsl (ps := _) Tryd.underlying32 Tryd.sizeOf5 Tryd.zeroValue5 rfl rfl rfl rfl rfl (by simp only [put1, List.map, List.zip, List.zipWith, List.set, List.replicate] <;> rfl) rfl (fun b13 wb13 eb13 hkb13 hub13 hsb13 => ?_)
    have hl15 : r < b13 := by rw [eb13]; exact hk8.lt
    have hk14 := hk8.upd hub13 (Nat.ne_of_lt hl15)
    have hl17 : b1 < b13 := by rw [eb13]; exact hk9.lt
    have hk16 := hk9.upd hub13 (Nat.ne_of_lt hl17)
    have hvl19 := fun h0 => eb13 ▸ hv10.lt h0
    have hv18 := BytesAt.upd hv10 hub13 (fun h0 => Nat.ne_of_lt (hvl19 h0))
    have hgeb13 : w.heap.size ≤ b13 := by rw [eb13]; exact hB11.size
    have hB20 := Touch.trans hB11 (Touch.of_new hub13 hgeb13)
    refine WL.r (Rd.b2s (l := [x, x]) Tryd.underlying32 Tryd.underlying5 Tryd.underlying9 rfl (BytesAt.two hkb13)) rfl <| ?_
    refine WL.p (.buildL (ps := _) blt27 rfl rfl rfl (by simp only [put1, List.map, List.zip, List.zipWith, List.set] <;> rfl)) rfl ?_
    refine WL.stL rfl rfl hk16 isz27 rfl rfl (fun w21 hkw21 huw21 hsw21 => ?_)
    have hk22 := hk14.upd huw21 (by ((try simp only) <;> omega))
    have hk23 := hkb13.upd huw21 (by ((try simp only) <;> omega))
    have hv24 := BytesAt.upd hv18 huw21 (fun h0 => Nat.ne_of_lt (hvl5 h0))
    have hB25 := Touch.trans hB20 (Touch.of_new huw21 (by omega))
    refine WL.nil <| ?_
    refine W.ret (W.retc1 rfl rfl (ldRow hkw21 Tryd.underlying27 rfl isz27)  ?_)
    first
    | exact Ends.ok (⟨3, 0, [x, x]⟩, l.drop (t + 1)) hy rfl ⟨_, rfl, by omega, ⟨hk22, hv24⟩, hB25⟩
    | exact Ends.ok _ (by rw [hy, if_pos (u8_eq (by assumption))]; exact hra) rfl ⟨_, hkr, hkl, ⟨hk22, hv24⟩, hB25⟩
  · have h12' := h12
    rw [if_neg (bF (by assumption))] at hk8
    rw [if_neg (by
      by_cases hq : t < l.length
      · rw [List.getElem?_eq_getElem hq]; exact nextB_f (x := x) (by assumption) hq
      · rw [List.getElem?_eq_none (by omega)]; exact fun e => hx e.symm)] at hy
    refine W.seq ?_
    refine W.reg ?_ -- 3
    refine WL.p (.mv rfl) rfl <| WL.p (.eql rfl rfl) rfl <| WL.p (.as rfl) rfl <| WL.nil <| ?_
    refine W.cond rfl (fun h26 => ?_) (fun h26 => ?_) -- slot 14
    · have h26' := of_decide_eq_true h26
      refine W.seq ?_
      refine W.reg ?_ -- 4
      refine WL.p (.mv rfl) rfl <| WL.ce hb104 rfl rfl ((scan_hex r p l c t _ ⟨hk8, hv10⟩ hne hc hl ht)) (fun k29 w27 hrw27 hw27 => ?_) (fun a28 w27 hrw27 hw27 => ?_)
      · skip
        have hBew27 := Touch.trans hB11 (Touch.mono hw27 hB11.size)
        exact pn_is (Ends.err k29 (by rw [hy, if_pos (u8_eq (by assumption))]; exact hrw27) hBew27)
      · skip
        obtain ⟨kr, hkr, hkl, hw27⟩ := hw27
        have hk30 := hw27.1.1
        have hk31 := Blk.touch hk9 hw27.2 hk9.lt (by omega)
        have hv32 := hw27.1.2
        have hB33 := Touch.trans hB11 (Touch.mono hw27.2 hB11.size)
        have hra := hrw27
        obtain ⟨a0, ha0⟩ : ∃ a0, a0 = a28 := ⟨_, rfl⟩
        refine WL.stL rfl rfl hk31 isz27 rfl rfl (fun w34 hkw34 huw34 hsw34 => ?_)
        have hk35 := hk30.upd huw34 (by ((try simp only) <;> omega))
        have hv36 := BytesAt.upd hv32 huw34 (fun h0 => Nat.ne_of_lt (hvl5 h0))
        have hB37 := Touch.trans hB33 (Touch.of_new huw34 (by omega))
        refine WL.nil <| ?_
        refine W.ret (W.retc1 rfl rfl (ldRow hkw34 Tryd.underlying27 rfl isz27)  ?_)
        first
        | exact Ends.ok (⟨3, 0, [x, x]⟩, l.drop (t + 1)) hy rfl ⟨_, rfl, by omega, ⟨hk35, hv36⟩, hB37⟩
        | exact Ends.ok _ (by rw [hy, if_pos (u8_eq (by assumption))]; exact hra) rfl ⟨_, hkr, hkl, ⟨hk35, hv36⟩, hB37⟩
    · have h26' := of_decide_eq_false h26
      refine W.skip ?_
      refine W.reg ?_ -- 5
      refine WL.p (.mkI Tryd.underlying28 rfl) rfl <| WL.panic rfl (pn_is ?_)
      exact Ends.err 14 (by rw [hy, if_neg (u8_ne (d := 60) (by assumption))]) hB11

end Go.Proofs.YteaohajihhpnmaaDoor
