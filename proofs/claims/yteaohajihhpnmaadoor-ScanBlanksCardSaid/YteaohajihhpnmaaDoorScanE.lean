/-
  Scan: the program's reader, fourth part: round brackets.
-/
import Derived.Test.YteaohajihhpnmaaDoorScanH
namespace Go.Proofs.YteaohajihhpnmaaDoor
open Go.RowKit

theorem next_lf (l : List UInt8) (t : Nat) (ht : t ≤ l.length) : t ≤ (if nextB l t 10 then t + 1 else t) ∧ (if nextB l t 10 then t + 1 else t) ≤ l.length ∧ l.drop (if nextB l t 10 then t + 1 else t) = dropLF (l.drop t) := by
  have e : nextB l t 10 = lfB l t := rfl
  rw [e]
  cases hb : lfB l t with
  | true => have := lfB_t hb; rw [if_pos rfl]; exact ⟨by omega, by omega, this.2.symm⟩
  | false => rw [if_neg (by simp)]; exact ⟨Nat.le_refl _, ht, (lfB_f hb).symm⟩
theorem scan_escape (B r : Nat) (p : Option Addr) (l : List UInt8) (c t : Nat) (x : UInt8) (v : Value) (o : List UInt8) (w : World) (h : RdOk w r p l c t) (hne : 0 < l.length → (pA p).block ≠ r) (hl : l.length ≤ 1000000) (ht : t ≤ l.length)
    (hrB : r < B) (hBw : B ≤ w.heap.size) (hpB : 0 < l.length → (pA p).block < B) (hown : Own 5 B w v (byteVals o)) (hol : o.length ≤ 10000000) :
    Calls Tryd.prog 101 #[.pointer (some ⟨r, 0, none⟩), v, .int .u8 (x.toNat : Int)] w fun e w' => ∃ v', e = .returned v' ∧ ∃ k, RdOk w' r p l c k ∧ Touch B r w w' ∧ Own 5 B w' v' (byteVals (o ++ (escS x (l.drop t)).1)) ∧ t ≤ k ∧ k ≤ l.length ∧ l.drop k = (escS x (l.drop t)).2 := by
  have hr := h.1
  have hb := h.2
  refine W.enter Tryd.func101 rfl Tryd.ntmps101 (Nat.le_of_ble_eq_true rfl) ?_
  have hB0 := Touch.refl (B) r w
  refine W.seq ?_
  refine W.reg ?_ -- 0
  refine WL.p (.as rfl) rfl <| WL.nil <| ?_
  refine W.seq ?_
  refine W.seq ?_
  refine W.reg ?_ -- 1
  refine WL.p (.mv rfl) rfl <| WL.nil <| ?_
  refine W.block ?_
  refine W.seq ?_
  refine W.reg ?_ -- 2
  refine WL.p (.eql rfl rfl) rfl <| WL.p (.as rfl) rfl <| WL.nil <| ?_
  refine W.cond rfl (fun h1 => ?_) (fun h1 => ?_) -- slot 10
  · have h1' := of_decide_eq_true h1
    refine W.seq ?_
    refine W.reg ?_ -- 3
    refine WL.p (.mv rfl) rfl <| WL.bsl (ps := _) Tryd.underlying32 Tryd.sizeOf5 Tryd.zeroValue5 rfl rfl rfl rfl rfl (by simp only [put1, List.map, List.zip, List.zipWith, List.set, List.replicate] <;> rfl) rfl (fun b2 wb2 eb2 hkb2 hub2 hsb2 => ?_)
    have ho3 := Own.new hown eb2 hub2
    have hl5 : r < b2 := by rw [eb2]; exact hr.lt
    have hk4 := hr.upd hub2 (Nat.ne_of_lt hl5)
    have hvl7 := fun h0 => eb2 ▸ hb.lt h0
    have hv6 := BytesAt.upd hb hub2 (fun h0 => Nat.ne_of_lt (hvl7 h0))
    have hgeb2 : w.heap.size ≤ b2 := by rw [eb2]; exact hB0.size
    have hB8 := Touch.trans hB0 (Touch.of_new hub2 (Nat.le_trans hBw hgeb2))
    refine WL.appm Tryd.underlying32 inf5 rfl rfl rfl ho3 rfl hkb2 rfl (by rw [byteVals_len]; omega) ((Nat.le_trans hBw hB8.size)) rfl (fun v9 w10 how10 hbw10 hgw10 => ?_)
    have hk11 := hk4.below hbw10 (by omega)
    have hv12 := BytesAt.below hv6 hbw10 hpB
    have hB13 := Touch.trans hB8 (Touch.of_below (hbw10.mono (Nat.le_refl _)))
    have ho14 := Own.snoc how10 (10) (rfl)
    refine WL.p (.as rfl) rfl <| WL.nil <| ?_
    refine W.ret (W.ret1 rfl rfl ?_)
    first
    | exact ⟨_, rfl, t, ⟨hk11, hv12⟩, hB13, (by rw [show x = 110 from u8_eq (by assumption), esc110]; exact ho14), Nat.le_refl _, ht, (by rw [show x = 110 from u8_eq (by assumption), esc110])⟩
    | exact ⟨_, rfl, t, ⟨hk11, hv12⟩, hB13, (by rw [show x = 114 from u8_eq (by assumption), esc114]; exact ho14), Nat.le_refl _, ht, (by rw [show x = 114 from u8_eq (by assumption), esc114])⟩
    | exact ⟨_, rfl, t, ⟨hk11, hv12⟩, hB13, (by rw [show x = 116 from u8_eq (by assumption), esc116]; exact ho14), Nat.le_refl _, ht, (by rw [show x = 116 from u8_eq (by assumption), esc116])⟩
    | exact ⟨_, rfl, t, ⟨hk11, hv12⟩, hB13, (by rw [show x = 98 from u8_eq (by assumption), esc98]; exact ho14), Nat.le_refl _, ht, (by rw [show x = 98 from u8_eq (by assumption), esc98])⟩
    | exact ⟨_, rfl, t, ⟨hk11, hv12⟩, hB13, (by rw [show x = 102 from u8_eq (by assumption), esc102]; exact ho14), Nat.le_refl _, ht, (by rw [show x = 102 from u8_eq (by assumption), esc102])⟩
    | exact ⟨_, rfl, t, ⟨hk11, hv12⟩, hB13, (by rw [show x = 10 from u8_eq (by assumption), esc10, List.append_nil]; exact ho14), Nat.le_refl _, ht, (by rw [show x = 10 from u8_eq (by assumption), esc10])⟩
    | exact ⟨_, rfl, t, ⟨hk11, hv12⟩, hB13, (by rw [esc_else _ (by omega) (by omega) (by omega) (by omega) (by omega) (by omega) (by omega) (by omega)]; exact ho14), Nat.le_refl _, ht, (by rw [esc_else _ (by omega) (by omega) (by omega) (by omega) (by omega) (by omega) (by omega) (by omega)])⟩
    | exact ⟨_, rfl, _, ⟨hk11, hv12⟩, hB13, (by rw [hx13, esc13, List.append_nil]; exact ho14), (next_lf l t ht).1, (next_lf l t ht).2.1, (by rw [hx13, esc13]; exact (next_lf l t ht).2.2)⟩
    | exact ⟨_, rfl, u, ⟨hk11, hv12⟩, hB13, (by rw [esc_oct _ h48 h55, hoct]; exact ho14), hu1, hu2, (by rw [esc_oct _ h48 h55, hoct])⟩
  · have h1' := of_decide_eq_false h1
    refine W.seq ?_
    refine W.reg ?_ -- 4
    refine WL.p (.eql rfl rfl) rfl <| WL.p (.as rfl) rfl <| WL.nil <| ?_
    refine W.cond rfl (fun h15 => ?_) (fun h15 => ?_) -- slot 15
    · have h15' := of_decide_eq_true h15
      refine W.seq ?_
      refine W.reg ?_ -- 5
      refine WL.p (.mv rfl) rfl <| WL.bsl (ps := _) Tryd.underlying32 Tryd.sizeOf5 Tryd.zeroValue5 rfl rfl rfl rfl rfl (by simp only [put1, List.map, List.zip, List.zipWith, List.set, List.replicate] <;> rfl) rfl (fun b16 wb16 eb16 hkb16 hub16 hsb16 => ?_)
      have ho17 := Own.new hown eb16 hub16
      have hl19 : r < b16 := by rw [eb16]; exact hr.lt
      have hk18 := hr.upd hub16 (Nat.ne_of_lt hl19)
      have hvl21 := fun h0 => eb16 ▸ hb.lt h0
      have hv20 := BytesAt.upd hb hub16 (fun h0 => Nat.ne_of_lt (hvl21 h0))
      have hgeb16 : w.heap.size ≤ b16 := by rw [eb16]; exact hB0.size
      have hB22 := Touch.trans hB0 (Touch.of_new hub16 (Nat.le_trans hBw hgeb16))
      refine WL.appm Tryd.underlying32 inf5 rfl rfl rfl ho17 rfl hkb16 rfl (by rw [byteVals_len]; omega) ((Nat.le_trans hBw hB22.size)) rfl (fun v23 w24 how24 hbw24 hgw24 => ?_)
      have hk25 := hk18.below hbw24 (by omega)
      have hv26 := BytesAt.below hv20 hbw24 hpB
      have hB27 := Touch.trans hB22 (Touch.of_below (hbw24.mono (Nat.le_refl _)))
      have ho28 := Own.snoc how24 (13) (rfl)
      refine WL.p (.as rfl) rfl <| WL.nil <| ?_
      refine W.ret (W.ret1 rfl rfl ?_)
      first
      | exact ⟨_, rfl, t, ⟨hk25, hv26⟩, hB27, (by rw [show x = 110 from u8_eq (by assumption), esc110]; exact ho28), Nat.le_refl _, ht, (by rw [show x = 110 from u8_eq (by assumption), esc110])⟩
      | exact ⟨_, rfl, t, ⟨hk25, hv26⟩, hB27, (by rw [show x = 114 from u8_eq (by assumption), esc114]; exact ho28), Nat.le_refl _, ht, (by rw [show x = 114 from u8_eq (by assumption), esc114])⟩
      | exact ⟨_, rfl, t, ⟨hk25, hv26⟩, hB27, (by rw [show x = 116 from u8_eq (by assumption), esc116]; exact ho28), Nat.le_refl _, ht, (by rw [show x = 116 from u8_eq (by assumption), esc116])⟩
      | exact ⟨_, rfl, t, ⟨hk25, hv26⟩, hB27, (by rw [show x = 98 from u8_eq (by assumption), esc98]; exact ho28), Nat.le_refl _, ht, (by rw [show x = 98 from u8_eq (by assumption), esc98])⟩
      | exact ⟨_, rfl, t, ⟨hk25, hv26⟩, hB27, (by rw [show x = 102 from u8_eq (by assumption), esc102]; exact ho28), Nat.le_refl _, ht, (by rw [show x = 102 from u8_eq (by assumption), esc102])⟩
      | exact ⟨_, rfl, t, ⟨hk25, hv26⟩, hB27, (by rw [show x = 10 from u8_eq (by assumption), esc10, List.append_nil]; exact ho28), Nat.le_refl _, ht, (by rw [show x = 10 from u8_eq (by assumption), esc10])⟩
      | exact ⟨_, rfl, t, ⟨hk25, hv26⟩, hB27, (by rw [esc_else _ (by omega) (by omega) (by omega) (by omega) (by omega) (by omega) (by omega) (by omega)]; exact ho28), Nat.le_refl _, ht, (by rw [esc_else _ (by omega) (by omega) (by omega) (by omega) (by omega) (by omega) (by omega) (by omega)])⟩
      | exact ⟨_, rfl, _, ⟨hk25, hv26⟩, hB27, (by rw [hx13, esc13, List.append_nil]; exact ho28), (next_lf l t ht).1, (next_lf l t ht).2.1, (by rw [hx13, esc13]; exact (next_lf l t ht).2.2)⟩
      | exact ⟨_, rfl, u, ⟨hk25, hv26⟩, hB27, (by rw [esc_oct _ h48 h55, hoct]; exact ho28), hu1, hu2, (by rw [esc_oct _ h48 h55, hoct])⟩
    · have h15' := of_decide_eq_false h15
      refine W.seq ?_
      refine W.reg ?_ -- 6
      refine WL.p (.eql rfl rfl) rfl <| WL.p (.as rfl) rfl <| WL.nil <| ?_
      refine W.cond rfl (fun h29 => ?_) (fun h29 => ?_) -- slot 20
      · have h29' := of_decide_eq_true h29
        refine W.seq ?_
        refine W.reg ?_ -- 7
        refine WL.p (.mv rfl) rfl <| WL.bsl (ps := _) Tryd.underlying32 Tryd.sizeOf5 Tryd.zeroValue5 rfl rfl rfl rfl rfl (by simp only [put1, List.map, List.zip, List.zipWith, List.set, List.replicate] <;> rfl) rfl (fun b30 wb30 eb30 hkb30 hub30 hsb30 => ?_)
        have ho31 := Own.new hown eb30 hub30
        have hl33 : r < b30 := by rw [eb30]; exact hr.lt
        have hk32 := hr.upd hub30 (Nat.ne_of_lt hl33)
        have hvl35 := fun h0 => eb30 ▸ hb.lt h0
        have hv34 := BytesAt.upd hb hub30 (fun h0 => Nat.ne_of_lt (hvl35 h0))
        have hgeb30 : w.heap.size ≤ b30 := by rw [eb30]; exact hB0.size
        have hB36 := Touch.trans hB0 (Touch.of_new hub30 (Nat.le_trans hBw hgeb30))
        refine WL.appm Tryd.underlying32 inf5 rfl rfl rfl ho31 rfl hkb30 rfl (by rw [byteVals_len]; omega) ((Nat.le_trans hBw hB36.size)) rfl (fun v37 w38 how38 hbw38 hgw38 => ?_)
        have hk39 := hk32.below hbw38 (by omega)
        have hv40 := BytesAt.below hv34 hbw38 hpB
        have hB41 := Touch.trans hB36 (Touch.of_below (hbw38.mono (Nat.le_refl _)))
        have ho42 := Own.snoc how38 (9) (rfl)
        refine WL.p (.as rfl) rfl <| WL.nil <| ?_
        refine W.ret (W.ret1 rfl rfl ?_)
        first
        | exact ⟨_, rfl, t, ⟨hk39, hv40⟩, hB41, (by rw [show x = 110 from u8_eq (by assumption), esc110]; exact ho42), Nat.le_refl _, ht, (by rw [show x = 110 from u8_eq (by assumption), esc110])⟩
        | exact ⟨_, rfl, t, ⟨hk39, hv40⟩, hB41, (by rw [show x = 114 from u8_eq (by assumption), esc114]; exact ho42), Nat.le_refl _, ht, (by rw [show x = 114 from u8_eq (by assumption), esc114])⟩
        | exact ⟨_, rfl, t, ⟨hk39, hv40⟩, hB41, (by rw [show x = 116 from u8_eq (by assumption), esc116]; exact ho42), Nat.le_refl _, ht, (by rw [show x = 116 from u8_eq (by assumption), esc116])⟩
        | exact ⟨_, rfl, t, ⟨hk39, hv40⟩, hB41, (by rw [show x = 98 from u8_eq (by assumption), esc98]; exact ho42), Nat.le_refl _, ht, (by rw [show x = 98 from u8_eq (by assumption), esc98])⟩
        | exact ⟨_, rfl, t, ⟨hk39, hv40⟩, hB41, (by rw [show x = 102 from u8_eq (by assumption), esc102]; exact ho42), Nat.le_refl _, ht, (by rw [show x = 102 from u8_eq (by assumption), esc102])⟩
        | exact ⟨_, rfl, t, ⟨hk39, hv40⟩, hB41, (by rw [show x = 10 from u8_eq (by assumption), esc10, List.append_nil]; exact ho42), Nat.le_refl _, ht, (by rw [show x = 10 from u8_eq (by assumption), esc10])⟩
        | exact ⟨_, rfl, t, ⟨hk39, hv40⟩, hB41, (by rw [esc_else _ (by omega) (by omega) (by omega) (by omega) (by omega) (by omega) (by omega) (by omega)]; exact ho42), Nat.le_refl _, ht, (by rw [esc_else _ (by omega) (by omega) (by omega) (by omega) (by omega) (by omega) (by omega) (by omega)])⟩
        | exact ⟨_, rfl, _, ⟨hk39, hv40⟩, hB41, (by rw [hx13, esc13, List.append_nil]; exact ho42), (next_lf l t ht).1, (next_lf l t ht).2.1, (by rw [hx13, esc13]; exact (next_lf l t ht).2.2)⟩
        | exact ⟨_, rfl, u, ⟨hk39, hv40⟩, hB41, (by rw [esc_oct _ h48 h55, hoct]; exact ho42), hu1, hu2, (by rw [esc_oct _ h48 h55, hoct])⟩
      · have h29' := of_decide_eq_false h29
        refine W.seq ?_
        refine W.reg ?_ -- 8
        refine WL.p (.eql rfl rfl) rfl <| WL.p (.as rfl) rfl <| WL.nil <| ?_
        refine W.cond rfl (fun h43 => ?_) (fun h43 => ?_) -- slot 25
        · have h43' := of_decide_eq_true h43
          refine W.seq ?_
          refine W.reg ?_ -- 9
          refine WL.p (.mv rfl) rfl <| WL.bsl (ps := _) Tryd.underlying32 Tryd.sizeOf5 Tryd.zeroValue5 rfl rfl rfl rfl rfl (by simp only [put1, List.map, List.zip, List.zipWith, List.set, List.replicate] <;> rfl) rfl (fun b44 wb44 eb44 hkb44 hub44 hsb44 => ?_)
          have ho45 := Own.new hown eb44 hub44
          have hl47 : r < b44 := by rw [eb44]; exact hr.lt
          have hk46 := hr.upd hub44 (Nat.ne_of_lt hl47)
          have hvl49 := fun h0 => eb44 ▸ hb.lt h0
          have hv48 := BytesAt.upd hb hub44 (fun h0 => Nat.ne_of_lt (hvl49 h0))
          have hgeb44 : w.heap.size ≤ b44 := by rw [eb44]; exact hB0.size
          have hB50 := Touch.trans hB0 (Touch.of_new hub44 (Nat.le_trans hBw hgeb44))
          refine WL.appm Tryd.underlying32 inf5 rfl rfl rfl ho45 rfl hkb44 rfl (by rw [byteVals_len]; omega) ((Nat.le_trans hBw hB50.size)) rfl (fun v51 w52 how52 hbw52 hgw52 => ?_)
          have hk53 := hk46.below hbw52 (by omega)
          have hv54 := BytesAt.below hv48 hbw52 hpB
          have hB55 := Touch.trans hB50 (Touch.of_below (hbw52.mono (Nat.le_refl _)))
          have ho56 := Own.snoc how52 (8) (rfl)
          refine WL.p (.as rfl) rfl <| WL.nil <| ?_
          refine W.ret (W.ret1 rfl rfl ?_)
          first
          | exact ⟨_, rfl, t, ⟨hk53, hv54⟩, hB55, (by rw [show x = 110 from u8_eq (by assumption), esc110]; exact ho56), Nat.le_refl _, ht, (by rw [show x = 110 from u8_eq (by assumption), esc110])⟩
          | exact ⟨_, rfl, t, ⟨hk53, hv54⟩, hB55, (by rw [show x = 114 from u8_eq (by assumption), esc114]; exact ho56), Nat.le_refl _, ht, (by rw [show x = 114 from u8_eq (by assumption), esc114])⟩
          | exact ⟨_, rfl, t, ⟨hk53, hv54⟩, hB55, (by rw [show x = 116 from u8_eq (by assumption), esc116]; exact ho56), Nat.le_refl _, ht, (by rw [show x = 116 from u8_eq (by assumption), esc116])⟩
          | exact ⟨_, rfl, t, ⟨hk53, hv54⟩, hB55, (by rw [show x = 98 from u8_eq (by assumption), esc98]; exact ho56), Nat.le_refl _, ht, (by rw [show x = 98 from u8_eq (by assumption), esc98])⟩
          | exact ⟨_, rfl, t, ⟨hk53, hv54⟩, hB55, (by rw [show x = 102 from u8_eq (by assumption), esc102]; exact ho56), Nat.le_refl _, ht, (by rw [show x = 102 from u8_eq (by assumption), esc102])⟩
          | exact ⟨_, rfl, t, ⟨hk53, hv54⟩, hB55, (by rw [show x = 10 from u8_eq (by assumption), esc10, List.append_nil]; exact ho56), Nat.le_refl _, ht, (by rw [show x = 10 from u8_eq (by assumption), esc10])⟩
          | exact ⟨_, rfl, t, ⟨hk53, hv54⟩, hB55, (by rw [esc_else _ (by omega) (by omega) (by omega) (by omega) (by omega) (by omega) (by omega) (by omega)]; exact ho56), Nat.le_refl _, ht, (by rw [esc_else _ (by omega) (by omega) (by omega) (by omega) (by omega) (by omega) (by omega) (by omega)])⟩
          | exact ⟨_, rfl, _, ⟨hk53, hv54⟩, hB55, (by rw [hx13, esc13, List.append_nil]; exact ho56), (next_lf l t ht).1, (next_lf l t ht).2.1, (by rw [hx13, esc13]; exact (next_lf l t ht).2.2)⟩
          | exact ⟨_, rfl, u, ⟨hk53, hv54⟩, hB55, (by rw [esc_oct _ h48 h55, hoct]; exact ho56), hu1, hu2, (by rw [esc_oct _ h48 h55, hoct])⟩
        · have h43' := of_decide_eq_false h43
          refine W.seq ?_
          refine W.reg ?_ -- 10
          refine WL.p (.eql rfl rfl) rfl <| WL.p (.as rfl) rfl <| WL.nil <| ?_
          refine W.cond rfl (fun h57 => ?_) (fun h57 => ?_) -- slot 30
          · have h57' := of_decide_eq_true h57
            refine W.seq ?_
            refine W.reg ?_ -- 11
            refine WL.p (.mv rfl) rfl <| WL.bsl (ps := _) Tryd.underlying32 Tryd.sizeOf5 Tryd.zeroValue5 rfl rfl rfl rfl rfl (by simp only [put1, List.map, List.zip, List.zipWith, List.set, List.replicate] <;> rfl) rfl (fun b58 wb58 eb58 hkb58 hub58 hsb58 => ?_)
            have ho59 := Own.new hown eb58 hub58
            have hl61 : r < b58 := by rw [eb58]; exact hr.lt
            have hk60 := hr.upd hub58 (Nat.ne_of_lt hl61)
            have hvl63 := fun h0 => eb58 ▸ hb.lt h0
            have hv62 := BytesAt.upd hb hub58 (fun h0 => Nat.ne_of_lt (hvl63 h0))
            have hgeb58 : w.heap.size ≤ b58 := by rw [eb58]; exact hB0.size
            have hB64 := Touch.trans hB0 (Touch.of_new hub58 (Nat.le_trans hBw hgeb58))
            refine WL.appm Tryd.underlying32 inf5 rfl rfl rfl ho59 rfl hkb58 rfl (by rw [byteVals_len]; omega) ((Nat.le_trans hBw hB64.size)) rfl (fun v65 w66 how66 hbw66 hgw66 => ?_)
            have hk67 := hk60.below hbw66 (by omega)
            have hv68 := BytesAt.below hv62 hbw66 hpB
            have hB69 := Touch.trans hB64 (Touch.of_below (hbw66.mono (Nat.le_refl _)))
            have ho70 := Own.snoc how66 (12) (rfl)
            refine WL.p (.as rfl) rfl <| WL.nil <| ?_
            refine W.ret (W.ret1 rfl rfl ?_)
            first
            | exact ⟨_, rfl, t, ⟨hk67, hv68⟩, hB69, (by rw [show x = 110 from u8_eq (by assumption), esc110]; exact ho70), Nat.le_refl _, ht, (by rw [show x = 110 from u8_eq (by assumption), esc110])⟩
            | exact ⟨_, rfl, t, ⟨hk67, hv68⟩, hB69, (by rw [show x = 114 from u8_eq (by assumption), esc114]; exact ho70), Nat.le_refl _, ht, (by rw [show x = 114 from u8_eq (by assumption), esc114])⟩
            | exact ⟨_, rfl, t, ⟨hk67, hv68⟩, hB69, (by rw [show x = 116 from u8_eq (by assumption), esc116]; exact ho70), Nat.le_refl _, ht, (by rw [show x = 116 from u8_eq (by assumption), esc116])⟩
            | exact ⟨_, rfl, t, ⟨hk67, hv68⟩, hB69, (by rw [show x = 98 from u8_eq (by assumption), esc98]; exact ho70), Nat.le_refl _, ht, (by rw [show x = 98 from u8_eq (by assumption), esc98])⟩
            | exact ⟨_, rfl, t, ⟨hk67, hv68⟩, hB69, (by rw [show x = 102 from u8_eq (by assumption), esc102]; exact ho70), Nat.le_refl _, ht, (by rw [show x = 102 from u8_eq (by assumption), esc102])⟩
            | exact ⟨_, rfl, t, ⟨hk67, hv68⟩, hB69, (by rw [show x = 10 from u8_eq (by assumption), esc10, List.append_nil]; exact ho70), Nat.le_refl _, ht, (by rw [show x = 10 from u8_eq (by assumption), esc10])⟩
            | exact ⟨_, rfl, t, ⟨hk67, hv68⟩, hB69, (by rw [esc_else _ (by omega) (by omega) (by omega) (by omega) (by omega) (by omega) (by omega) (by omega)]; exact ho70), Nat.le_refl _, ht, (by rw [esc_else _ (by omega) (by omega) (by omega) (by omega) (by omega) (by omega) (by omega) (by omega)])⟩
            | exact ⟨_, rfl, _, ⟨hk67, hv68⟩, hB69, (by rw [hx13, esc13, List.append_nil]; exact ho70), (next_lf l t ht).1, (next_lf l t ht).2.1, (by rw [hx13, esc13]; exact (next_lf l t ht).2.2)⟩
            | exact ⟨_, rfl, u, ⟨hk67, hv68⟩, hB69, (by rw [esc_oct _ h48 h55, hoct]; exact ho70), hu1, hu2, (by rw [esc_oct _ h48 h55, hoct])⟩
          · have h57' := of_decide_eq_false h57
            refine W.seq ?_
            refine W.reg ?_ -- 12
            refine WL.p (.eql rfl rfl) rfl <| WL.p (.as rfl) rfl <| WL.nil <| ?_
            refine W.cond rfl (fun h71 => ?_) (fun h71 => ?_) -- slot 35
            · have h71' := of_decide_eq_true h71
              refine W.seq ?_
              refine W.reg ?_ -- 13
              refine WL.p (.mv rfl) rfl <| WL.p (.as rfl) rfl <| WL.nil <| ?_
              refine W.ret (W.ret1 rfl rfl ?_)
              first
              | exact ⟨_, rfl, t, ⟨hr, hb⟩, hB0, (by rw [show x = 110 from u8_eq (by assumption), esc110]; exact hown), Nat.le_refl _, ht, (by rw [show x = 110 from u8_eq (by assumption), esc110])⟩
              | exact ⟨_, rfl, t, ⟨hr, hb⟩, hB0, (by rw [show x = 114 from u8_eq (by assumption), esc114]; exact hown), Nat.le_refl _, ht, (by rw [show x = 114 from u8_eq (by assumption), esc114])⟩
              | exact ⟨_, rfl, t, ⟨hr, hb⟩, hB0, (by rw [show x = 116 from u8_eq (by assumption), esc116]; exact hown), Nat.le_refl _, ht, (by rw [show x = 116 from u8_eq (by assumption), esc116])⟩
              | exact ⟨_, rfl, t, ⟨hr, hb⟩, hB0, (by rw [show x = 98 from u8_eq (by assumption), esc98]; exact hown), Nat.le_refl _, ht, (by rw [show x = 98 from u8_eq (by assumption), esc98])⟩
              | exact ⟨_, rfl, t, ⟨hr, hb⟩, hB0, (by rw [show x = 102 from u8_eq (by assumption), esc102]; exact hown), Nat.le_refl _, ht, (by rw [show x = 102 from u8_eq (by assumption), esc102])⟩
              | exact ⟨_, rfl, t, ⟨hr, hb⟩, hB0, (by rw [show x = 10 from u8_eq (by assumption), esc10, List.append_nil]; exact hown), Nat.le_refl _, ht, (by rw [show x = 10 from u8_eq (by assumption), esc10])⟩
              | exact ⟨_, rfl, t, ⟨hr, hb⟩, hB0, (by rw [esc_else _ (by omega) (by omega) (by omega) (by omega) (by omega) (by omega) (by omega) (by omega)]; exact hown), Nat.le_refl _, ht, (by rw [esc_else _ (by omega) (by omega) (by omega) (by omega) (by omega) (by omega) (by omega) (by omega)])⟩
              | exact ⟨_, rfl, _, ⟨hr, hb⟩, hB0, (by rw [hx13, esc13, List.append_nil]; exact hown), (next_lf l t ht).1, (next_lf l t ht).2.1, (by rw [hx13, esc13]; exact (next_lf l t ht).2.2)⟩
              | exact ⟨_, rfl, u, ⟨hr, hb⟩, hB0, (by rw [esc_oct _ h48 h55, hoct]; exact hown), hu1, hu2, (by rw [esc_oct _ h48 h55, hoct])⟩
            · have h71' := of_decide_eq_false h71
              refine W.seq ?_
              refine W.reg ?_ -- 14
              refine WL.p (.eql rfl rfl) rfl <| WL.p (.as rfl) rfl <| WL.nil <| ?_
              refine W.cond rfl (fun h72 => ?_) (fun h72 => ?_) -- slot 38
              · have h72' := of_decide_eq_true h72
                have hx13 : x = 13 := u8_eq (by assumption)
                refine W.seq ?_
                refine W.reg ?_ -- 15
                refine WL.p (.mv rfl) rfl <| WL.c1 hb102 rfl rfl ((scan_next r p l c t 10 _ ⟨hr, hb⟩ hne hl ht)) (fun w73 hw73 => ?_)
                have ho74 := Own.touch' hown hw73.2 (by omega)
                have hk75 := hw73.1.1
                have hv76 := hw73.1.2
                have hB77 := Touch.trans hB0 (Touch.mono hw73.2 (Nat.le_trans hBw hB0.size))
                refine WL.nil <| ?_
                refine W.seq ?_
                refine W.reg ?_ -- 16
                refine WL.p (.mv rfl) rfl <| WL.p (.as rfl) rfl <| WL.nil <| ?_
                refine W.ret (W.ret1 rfl rfl ?_)
                first
                | exact ⟨_, rfl, t, ⟨hk75, hv76⟩, hB77, (by rw [show x = 110 from u8_eq (by assumption), esc110]; exact ho74), Nat.le_refl _, ht, (by rw [show x = 110 from u8_eq (by assumption), esc110])⟩
                | exact ⟨_, rfl, t, ⟨hk75, hv76⟩, hB77, (by rw [show x = 114 from u8_eq (by assumption), esc114]; exact ho74), Nat.le_refl _, ht, (by rw [show x = 114 from u8_eq (by assumption), esc114])⟩
                | exact ⟨_, rfl, t, ⟨hk75, hv76⟩, hB77, (by rw [show x = 116 from u8_eq (by assumption), esc116]; exact ho74), Nat.le_refl _, ht, (by rw [show x = 116 from u8_eq (by assumption), esc116])⟩
                | exact ⟨_, rfl, t, ⟨hk75, hv76⟩, hB77, (by rw [show x = 98 from u8_eq (by assumption), esc98]; exact ho74), Nat.le_refl _, ht, (by rw [show x = 98 from u8_eq (by assumption), esc98])⟩
                | exact ⟨_, rfl, t, ⟨hk75, hv76⟩, hB77, (by rw [show x = 102 from u8_eq (by assumption), esc102]; exact ho74), Nat.le_refl _, ht, (by rw [show x = 102 from u8_eq (by assumption), esc102])⟩
                | exact ⟨_, rfl, t, ⟨hk75, hv76⟩, hB77, (by rw [show x = 10 from u8_eq (by assumption), esc10, List.append_nil]; exact ho74), Nat.le_refl _, ht, (by rw [show x = 10 from u8_eq (by assumption), esc10])⟩
                | exact ⟨_, rfl, t, ⟨hk75, hv76⟩, hB77, (by rw [esc_else _ (by omega) (by omega) (by omega) (by omega) (by omega) (by omega) (by omega) (by omega)]; exact ho74), Nat.le_refl _, ht, (by rw [esc_else _ (by omega) (by omega) (by omega) (by omega) (by omega) (by omega) (by omega) (by omega)])⟩
                | exact ⟨_, rfl, _, ⟨hk75, hv76⟩, hB77, (by rw [hx13, esc13, List.append_nil]; exact ho74), (next_lf l t ht).1, (next_lf l t ht).2.1, (by rw [hx13, esc13]; exact (next_lf l t ht).2.2)⟩
                | exact ⟨_, rfl, u, ⟨hk75, hv76⟩, hB77, (by rw [esc_oct _ h48 h55, hoct]; exact ho74), hu1, hu2, (by rw [esc_oct _ h48 h55, hoct])⟩
              · have h72' := of_decide_eq_false h72
                refine W.skip ?_
                refine W.seq ?_
                refine W.seq ?_
                refine W.reg ?_ -- 17
                refine WL.p (.mv rfl) rfl <| WL.p (.lss rfl rfl) rfl <| WL.p (.mv rfl) rfl <| WL.gd rfl rfl rfl (fun g78 => ?_) (fun g78 => ?_)
                · have g78' := of_decide_eq_false g78
                  refine WL.p (.mv rfl) rfl <| WL.gy rfl rfl rfl g78 <| WL.p (.gtr rfl rfl) rfl <| WL.p (.pkF rfl g78 rfl) rfl <| WL.nil <| ?_
                  refine W.cond rfl (fun h79 => ?_) (fun h79 => ?_) -- slot 48
                  · have h79' := of_decide_eq_true h79
                    refine W.seq ?_
                    refine W.reg ?_ -- 18
                    refine WL.p (.mv rfl) rfl <| WL.p (.mv rfl) rfl <| WL.bsl (ps := _) Tryd.underlying32 Tryd.sizeOf5 Tryd.zeroValue5 rfl rfl rfl rfl rfl (by simp only [put1, List.map, List.zip, List.zipWith, List.set, List.replicate] <;> rfl) rfl (fun b80 wb80 eb80 hkb80 hub80 hsb80 => ?_)
                    have ho81 := Own.new hown eb80 hub80
                    have hl83 : r < b80 := by rw [eb80]; exact hr.lt
                    have hk82 := hr.upd hub80 (Nat.ne_of_lt hl83)
                    have hvl85 := fun h0 => eb80 ▸ hb.lt h0
                    have hv84 := BytesAt.upd hb hub80 (fun h0 => Nat.ne_of_lt (hvl85 h0))
                    have hgeb80 : w.heap.size ≤ b80 := by rw [eb80]; exact hB0.size
                    have hB86 := Touch.trans hB0 (Touch.of_new hub80 (Nat.le_trans hBw hgeb80))
                    refine WL.appm Tryd.underlying32 inf5 rfl rfl rfl ho81 rfl hkb80 rfl (by rw [byteVals_len]; omega) ((Nat.le_trans hBw hB86.size)) rfl (fun v87 w88 how88 hbw88 hgw88 => ?_)
                    have hk89 := hk82.below hbw88 (by omega)
                    have hv90 := BytesAt.below hv84 hbw88 hpB
                    have hB91 := Touch.trans hB86 (Touch.of_below (hbw88.mono (Nat.le_refl _)))
                    have ho92 := Own.snoc how88 (x) (rfl)
                    refine WL.p (.as rfl) rfl <| WL.nil <| ?_
                    refine W.ret (W.ret1 rfl rfl ?_)
                    first
                    | exact ⟨_, rfl, t, ⟨hk89, hv90⟩, hB91, (by rw [show x = 110 from u8_eq (by assumption), esc110]; exact ho92), Nat.le_refl _, ht, (by rw [show x = 110 from u8_eq (by assumption), esc110])⟩
                    | exact ⟨_, rfl, t, ⟨hk89, hv90⟩, hB91, (by rw [show x = 114 from u8_eq (by assumption), esc114]; exact ho92), Nat.le_refl _, ht, (by rw [show x = 114 from u8_eq (by assumption), esc114])⟩
                    | exact ⟨_, rfl, t, ⟨hk89, hv90⟩, hB91, (by rw [show x = 116 from u8_eq (by assumption), esc116]; exact ho92), Nat.le_refl _, ht, (by rw [show x = 116 from u8_eq (by assumption), esc116])⟩
                    | exact ⟨_, rfl, t, ⟨hk89, hv90⟩, hB91, (by rw [show x = 98 from u8_eq (by assumption), esc98]; exact ho92), Nat.le_refl _, ht, (by rw [show x = 98 from u8_eq (by assumption), esc98])⟩
                    | exact ⟨_, rfl, t, ⟨hk89, hv90⟩, hB91, (by rw [show x = 102 from u8_eq (by assumption), esc102]; exact ho92), Nat.le_refl _, ht, (by rw [show x = 102 from u8_eq (by assumption), esc102])⟩
                    | exact ⟨_, rfl, t, ⟨hk89, hv90⟩, hB91, (by rw [show x = 10 from u8_eq (by assumption), esc10, List.append_nil]; exact ho92), Nat.le_refl _, ht, (by rw [show x = 10 from u8_eq (by assumption), esc10])⟩
                    | exact ⟨_, rfl, t, ⟨hk89, hv90⟩, hB91, (by rw [esc_else _ (by omega) (by omega) (by omega) (by omega) (by omega) (by omega) (by omega) (by omega)]; exact ho92), Nat.le_refl _, ht, (by rw [esc_else _ (by omega) (by omega) (by omega) (by omega) (by omega) (by omega) (by omega) (by omega)])⟩
                    | exact ⟨_, rfl, _, ⟨hk89, hv90⟩, hB91, (by rw [hx13, esc13, List.append_nil]; exact ho92), (next_lf l t ht).1, (next_lf l t ht).2.1, (by rw [hx13, esc13]; exact (next_lf l t ht).2.2)⟩
                    | exact ⟨_, rfl, u, ⟨hk89, hv90⟩, hB91, (by rw [esc_oct _ h48 h55, hoct]; exact ho92), hu1, hu2, (by rw [esc_oct _ h48 h55, hoct])⟩
                  · have h79' := of_decide_eq_false h79
                    refine W.skip ?_
                    refine W.seq ?_
                    refine W.reg ?_ -- 19
                    refine WL.p (.mv rfl) rfl <| WL.p (.sub rfl rfl (u8w (by omega))) rfl <| WL.p (.cvt Tryd.underlying5 Tryd.underlying3 rfl (i64w (by omega))) rfl <| WL.p (.as rfl) rfl <| WL.nil <| ?_
                    refine W.seq ?_
                    refine W.seq ?_
                    refine W.reg ?_ -- 20
                    refine WL.p (.as rfl) rfl <| WL.nil <| ?_
                    refine W.block ?_
                    obtain ⟨tt, htt⟩ : ∃ tt, tt = t := ⟨t, rfl⟩
                    have h48 : 48 ≤ (x.toNat : Int) := by omega
                    have h55 : (x.toNat : Int) ≤ 55 := by omega
                    -- loop 1: writes [7, 8, 56, 57, 58, 59, 60, 61, 62, 63, 64, 65, 66, 67, 68, 69, 70, 71, 72, 73, 74, 75, 76, 77, 78, 79, 80, 81, 82, 83, 84, 85, 86, 87, 88, 89, 90, 91, 92, 93, 94, 95, 96]; reads from outside [0, 7, 8]
                    refine W.loop (α := Nat × Nat × Nat) (fun t => [(0, .pointer (some ⟨r, 0, none⟩)), (1, v), (7, .int .i64 (t.1 : Int)), (8, .int .i64 (t.2.1 : Int))]) (fun t w' => RdOk w' r p l c t.2.2 ∧ Touch B r w w' ∧ Own 5 B w' v (byteVals o) ∧ tt ≤ t.2.2 ∧ t.2.2 ≤ l.length ∧ (t.2.1 = 0 ∧ t.1 ≤ 7 ∨ t.2.1 = 1 ∧ t.1 ≤ 63 ∨ t.2.1 = 2 ∧ t.1 ≤ 511) ∧ octS (2 - t.2.1) t.1 (l.drop t.2.2) = octS 2 (x.toNat - 48) (l.drop tt)) (fun t => 2 - t.2.1) ((x.toNat - 48, 0, tt)) ⟨rfl, rfl, lk_i rfl (by ((try simp only) <;> omega)), rfl, trivial⟩ (⟨⟨by rw [htt]; exact hr, hb⟩, hB0, hown, Nat.le_refl _, by rw [htt]; exact ht, Or.inl ⟨rfl, by ((try simp only) <;> omega)⟩, rfl⟩) (fun t w1 hR => ?_)
                    subst htt
                    obtain ⟨m, k, u⟩ := t
                    obtain ⟨hrd, hT, hown1, hu1, hu2, hm, hoc⟩ := hR
                    simp only at hrd hT hown1 hu1 hu2 hm hoc ⊢
                    refine W.seq ?_
                    refine W.cutBQ 87 (octT l k u) ?_ (fun w93 dw93 => ?_)
                    · skip
                      refine W.regQ mixed (by kernel_rfl) ?_ -- 21
                      refine WQ.p (.mv rfl) rfl <| WQ.p (.lss rfl rfl) rfl <| WQ.p (.mv rfl) rfl <| WQ.gd rfl rfl rfl (fun g94 => ?_) (fun g94 => ?_)
                      · have g94' := of_decide_eq_true g94
                        refine WQ.p (.mv rfl) rfl <| WQ.gy rfl rfl rfl g94 <| WQ.c1 hb76 rfl rfl (fun m => (more_q r p l c u _ ⟨hrd.1, hrd.2⟩ m)) <| WQ.p (.pkT rfl g94 rfl) rfl <| WQ.p (.mv rfl) rfl <| WQ.gd rfl rfl rfl (fun g95 => ?_) (fun g95 => ?_)
                        · have g95' := of_decide_eq_true g95
                          refine WQ.p (.mv rfl) rfl <| WQ.gy rfl rfl rfl g95 <| WQ.p (.nck rfl) rfl <| WQ.gy rfl rfl rfl g95 <| WQ.p (.fa Tryd.underlying71 rfl Tryd.sizeOf32 (by decide) rfl) rfl <| WQ.gy rfl rfl rfl g95 <| WQ.r (fun m => Rd.ld (Tryd.isAgg32 _) rfl hrd.1 rfl) rfl <| WQ.gy rfl rfl rfl g95 <| WQ.p (.mv rfl) rfl <| WQ.gy rfl rfl rfl g95 <| WQ.p (.nck rfl) rfl <| WQ.gy rfl rfl rfl g95 <| WQ.p (.fa Tryd.underlying71 rfl Tryd.sizeOf3 (by decide) rfl) rfl <| WQ.gy rfl rfl rfl g95 <| WQ.r (fun m => Rd.ld (Tryd.isAgg3 _) rfl hrd.1 rfl) rfl <| WQ.gy rfl rfl rfl g95 <| WQ.p (.ixb Tryd.underlying32 Tryd.sizeOf5 rfl rfl (hrd.2.isp (by omega)) (u) (by omega) (by omega)) rfl <| WQ.gy rfl rfl rfl g95 <| WQ.r (fun m => Rd.ldc (Tryd.isAgg5 _) rfl ((hrd.2.drewN m).cells _ (by omega))) rfl <| WQ.gy rfl rfl rfl g95 <| WQ.p (.geq rfl rfl) rfl <| WQ.p (.pkT rfl g95 rfl) rfl <| WQ.p (.mv rfl) rfl <| WQ.gd rfl rfl rfl (fun g96 => ?_) (fun g96 => ?_)
                          · have g96' := of_decide_eq_true g96
                            refine WQ.p (.mv rfl) rfl <| WQ.gy rfl rfl rfl g96 <| WQ.p (.nck rfl) rfl <| WQ.gy rfl rfl rfl g96 <| WQ.p (.fa Tryd.underlying71 rfl Tryd.sizeOf32 (by decide) rfl) rfl <| WQ.gy rfl rfl rfl g96 <| WQ.r (fun m => Rd.ld (Tryd.isAgg32 _) rfl hrd.1 rfl) rfl <| WQ.gy rfl rfl rfl g96 <| WQ.p (.mv rfl) rfl <| WQ.gy rfl rfl rfl g96 <| WQ.p (.nck rfl) rfl <| WQ.gy rfl rfl rfl g96 <| WQ.p (.fa Tryd.underlying71 rfl Tryd.sizeOf3 (by decide) rfl) rfl <| WQ.gy rfl rfl rfl g96 <| WQ.r (fun m => Rd.ld (Tryd.isAgg3 _) rfl hrd.1 rfl) rfl <| WQ.gy rfl rfl rfl g96 <| WQ.p (.ixb Tryd.underlying32 Tryd.sizeOf5 rfl rfl (hrd.2.isp (by omega)) (u) (by omega) (by omega)) rfl <| WQ.gy rfl rfl rfl g96 <| WQ.r (fun m => Rd.ldc (Tryd.isAgg5 _) rfl ((hrd.2.drewN m).cells _ (by omega))) rfl <| WQ.gy rfl rfl rfl g96 <| WQ.p (.leq rfl rfl) rfl <| WQ.p (.pkT rfl g96 rfl) rfl <| WQ.nil (fun w97 dw97 => ?_)
                            have ho98 := Own.drew hown1 dw97
                            have hk99 := hrd.1.drew dw97
                            have hv100 := hrd.2.drew dw97
                            have hB101 := Touch.trans hT (Touch.of_drew dw97)
                            exact ⟨⟨lk_b rfl (by (by_cases hq : u < l.length) <;> (unfold octT; first | (exfalso; omega) | (rw [getElem!_pos l u hq]; (apply Bool.eq_iff_iff.2; (try simp only [Bool.and_eq_true, Bool.or_eq_true, Bool.not_eq_true', decide_eq_true_eq, decide_eq_false_iff_not, Bool.false_eq_true, Bool.not_eq_false', false_iff, iff_false, true_iff, iff_true]); omega)) | (apply Bool.eq_iff_iff.2; (try simp only [Bool.and_eq_true, Bool.or_eq_true, Bool.not_eq_true', decide_eq_true_eq, decide_eq_false_iff_not, Bool.false_eq_true, Bool.not_eq_false', false_iff, iff_false, true_iff, iff_true]); omega))), by repeat (first | exact Le.refl _ | refine Le.cons rfl ?_)⟩, dw97⟩
                          · have g96' := of_decide_eq_false g96
                            refine WQ.gn rfl rfl rfl g96 <| WQ.gn rfl rfl rfl g96 <| WQ.gn rfl rfl rfl g96 <| WQ.gn rfl rfl rfl g96 <| WQ.gn rfl rfl rfl g96 <| WQ.gn rfl rfl rfl g96 <| WQ.gn rfl rfl rfl g96 <| WQ.gn rfl rfl rfl g96 <| WQ.gn rfl rfl rfl g96 <| WQ.gn rfl rfl rfl g96 <| WQ.p (.pkF rfl g96 rfl) rfl <| WQ.nil (fun w102 dw102 => ?_)
                            have ho103 := Own.drew hown1 dw102
                            have hk104 := hrd.1.drew dw102
                            have hv105 := hrd.2.drew dw102
                            have hB106 := Touch.trans hT (Touch.of_drew dw102)
                            exact ⟨⟨lk_b rfl (by (by_cases hq : u < l.length) <;> (unfold octT; first | (exfalso; omega) | (rw [getElem!_pos l u hq]; (apply Bool.eq_iff_iff.2; (try simp only [Bool.and_eq_true, Bool.or_eq_true, Bool.not_eq_true', decide_eq_true_eq, decide_eq_false_iff_not, Bool.false_eq_true, Bool.not_eq_false', false_iff, iff_false, true_iff, iff_true]); omega)) | (apply Bool.eq_iff_iff.2; (try simp only [Bool.and_eq_true, Bool.or_eq_true, Bool.not_eq_true', decide_eq_true_eq, decide_eq_false_iff_not, Bool.false_eq_true, Bool.not_eq_false', false_iff, iff_false, true_iff, iff_true]); omega))), by repeat (first | exact Le.refl _ | refine Le.cons rfl ?_)⟩, dw102⟩
                        · have g95' := of_decide_eq_false g95
                          refine WQ.gn rfl rfl rfl g95 <| WQ.gn rfl rfl rfl g95 <| WQ.gn rfl rfl rfl g95 <| WQ.gn rfl rfl rfl g95 <| WQ.gn rfl rfl rfl g95 <| WQ.gn rfl rfl rfl g95 <| WQ.gn rfl rfl rfl g95 <| WQ.gn rfl rfl rfl g95 <| WQ.gn rfl rfl rfl g95 <| WQ.gn rfl rfl rfl g95 <| WQ.p (.pkF rfl g95 rfl) rfl <| WQ.p (.mv rfl) rfl <| WQ.gn rfl rfl rfl rfl <| WQ.gn rfl rfl rfl rfl <| WQ.gn rfl rfl rfl rfl <| WQ.gn rfl rfl rfl rfl <| WQ.gn rfl rfl rfl rfl <| WQ.gn rfl rfl rfl rfl <| WQ.gn rfl rfl rfl rfl <| WQ.gn rfl rfl rfl rfl <| WQ.gn rfl rfl rfl rfl <| WQ.gn rfl rfl rfl rfl <| WQ.gn rfl rfl rfl rfl <| WQ.p (.pkF rfl rfl rfl) rfl <| WQ.nil (fun w107 dw107 => ?_)
                          have ho108 := Own.drew hown1 dw107
                          have hk109 := hrd.1.drew dw107
                          have hv110 := hrd.2.drew dw107
                          have hB111 := Touch.trans hT (Touch.of_drew dw107)
                          exact ⟨⟨lk_b rfl (by (by_cases hq : u < l.length) <;> (unfold octT; first | (exfalso; omega) | (rw [getElem!_pos l u hq]; (apply Bool.eq_iff_iff.2; (try simp only [Bool.and_eq_true, Bool.or_eq_true, Bool.not_eq_true', decide_eq_true_eq, decide_eq_false_iff_not, Bool.false_eq_true, Bool.not_eq_false', false_iff, iff_false, true_iff, iff_true]); omega)) | (apply Bool.eq_iff_iff.2; (try simp only [Bool.and_eq_true, Bool.or_eq_true, Bool.not_eq_true', decide_eq_true_eq, decide_eq_false_iff_not, Bool.false_eq_true, Bool.not_eq_false', false_iff, iff_false, true_iff, iff_true]); omega))), by repeat (first | exact Le.refl _ | refine Le.cons rfl ?_)⟩, dw107⟩
                      · have g94' := of_decide_eq_false g94
                        refine WQ.gn rfl rfl rfl g94 <| WQ.p (.pkF rfl g94 rfl) rfl <| WQ.p (.mv rfl) rfl <| WQ.gn rfl rfl rfl rfl <| WQ.gn rfl rfl rfl rfl <| WQ.gn rfl rfl rfl rfl <| WQ.gn rfl rfl rfl rfl <| WQ.gn rfl rfl rfl rfl <| WQ.gn rfl rfl rfl rfl <| WQ.gn rfl rfl rfl rfl <| WQ.gn rfl rfl rfl rfl <| WQ.gn rfl rfl rfl rfl <| WQ.gn rfl rfl rfl rfl <| WQ.gn rfl rfl rfl rfl <| WQ.p (.pkF rfl rfl rfl) rfl <| WQ.p (.mv rfl) rfl <| WQ.gn rfl rfl rfl rfl <| WQ.gn rfl rfl rfl rfl <| WQ.gn rfl rfl rfl rfl <| WQ.gn rfl rfl rfl rfl <| WQ.gn rfl rfl rfl rfl <| WQ.gn rfl rfl rfl rfl <| WQ.gn rfl rfl rfl rfl <| WQ.gn rfl rfl rfl rfl <| WQ.gn rfl rfl rfl rfl <| WQ.gn rfl rfl rfl rfl <| WQ.gn rfl rfl rfl rfl <| WQ.p (.pkF rfl rfl rfl) rfl <| WQ.nil (fun w112 dw112 => ?_)
                        have ho113 := Own.drew hown1 dw112
                        have hk114 := hrd.1.drew dw112
                        have hv115 := hrd.2.drew dw112
                        have hB116 := Touch.trans hT (Touch.of_drew dw112)
                        exact ⟨⟨lk_b rfl (by (by_cases hq : u < l.length) <;> (unfold octT; first | (exfalso; omega) | (rw [getElem!_pos l u hq]; (apply Bool.eq_iff_iff.2; (try simp only [Bool.and_eq_true, Bool.or_eq_true, Bool.not_eq_true', decide_eq_true_eq, decide_eq_false_iff_not, Bool.false_eq_true, Bool.not_eq_false', false_iff, iff_false, true_iff, iff_true]); omega)) | (apply Bool.eq_iff_iff.2; (try simp only [Bool.and_eq_true, Bool.or_eq_true, Bool.not_eq_true', decide_eq_true_eq, decide_eq_false_iff_not, Bool.false_eq_true, Bool.not_eq_false', false_iff, iff_false, true_iff, iff_true]); omega))), by repeat (first | exact Le.refl _ | refine Le.cons rfl ?_)⟩, dw112⟩
                    have ho117 := Own.drew hown1 dw93
                    have hk118 := hrd.1.drew dw93
                    have hv119 := hrd.2.drew dw93
                    have hB120 := Touch.trans hT (Touch.of_drew dw93)
                    refine W.cond rfl (fun h121 => ?_) (fun h121 => ?_) -- slot 87
                    · have h121' := h121
                      obtain ⟨hk2', hul, h48', h55', hoct⟩ := octT_t (by assumption)
                      refine W.skip ?_
                      refine W.seq ?_
                      refine W.block ?_
                      refine W.reg ?_ -- 23
                      refine WL.p (.mv rfl) rfl <| WL.p (.mul rfl rfl (i64w (by omega))) rfl <| WL.p (.mv rfl) rfl <| WL.ce hb100 rfl rfl ((scan_take r p l c u _ ⟨hk118, hv119⟩ hne hl)) (fun k124 w122 hrw122 hw122 => ?_) (fun a123 w122 hrw122 hw122 => ?_)
                      · skip
                        have hBew122 := Touch.trans hB120 (Touch.mono hw122 (Nat.le_trans hBw hB120.size))
                        exact absurd (takeS_err hrw122).1 (by omega)
                      · skip
                        have ho125 := Own.touch' ho117 hw122.2 (by omega)
                        have hk126 := hw122.1.1
                        have hv127 := hw122.1.2
                        have hB128 := Touch.trans hB120 (Touch.mono hw122.2 (Nat.le_trans hBw hB120.size))
                        obtain ⟨hlt, hx⟩ := takeS_ok hrw122
                        rw [hx]
                        refine WL.p (.sub rfl rfl (u8w (by omega))) rfl <| WL.p (.cvt Tryd.underlying5 Tryd.underlying3 rfl (i64w (by omega))) rfl <| WL.p (.add rfl rfl (i64w (by omega))) rfl <| WL.p (.as rfl) rfl <| WL.nil <| ?_
                        refine W.reg ?_ -- 22
                        refine WL.p (.mv rfl) rfl <| WL.p (.add rfl rfl (i64w (by omega))) rfl <| WL.p (.as rfl) rfl <| WL.nil <| ?_
                        exact ⟨(8 * m + ((l[u]'hul).toNat - 48), k + 1, u + 1), ⟨rfl, rfl, lk_i rfl (by ((try simp only) <;> omega)), lk_i rfl (by ((try simp only) <;> omega)), trivial⟩, ⟨⟨hk126, hv127⟩, hB128, ho125, by ((try simp only) <;> omega), by ((try simp only) <;> omega), by ((try simp only) <;> omega), by rw [← hoc, hoct m]⟩, by ((try simp only) <;> omega)⟩
                    · have h121' := h121
                      have hoct := octT_f (by assumption) m
                      rw [hoc] at hoct
                      refine W.exit ?_ -- 1
                      refine W.seq ?_
                      refine W.reg ?_ -- 24
                      refine WL.p (.mv rfl) rfl <| WL.p (.mv rfl) rfl <| WL.p (.cvt Tryd.underlying3 Tryd.underlying5 rfl (show IntKind.u8.wrap (m : Int) = ((m % 256 : Nat) : Int) by rw [IntKind.wrap_u8']; (first | done | rfl))) rfl <| WL.bsl (ps := _) Tryd.underlying32 Tryd.sizeOf5 Tryd.zeroValue5 rfl rfl rfl rfl rfl (by simp only [put1, List.map, List.zip, List.zipWith, List.set, List.replicate] <;> rfl) rfl (fun b129 wb129 eb129 hkb129 hub129 hsb129 => ?_)
                      have ho130 := Own.new ho117 eb129 hub129
                      have hl132 : r < b129 := by rw [eb129]; exact hk118.lt
                      have hk131 := hk118.upd hub129 (Nat.ne_of_lt hl132)
                      have hvl134 := fun h0 => eb129 ▸ hv119.lt h0
                      have hv133 := BytesAt.upd hv119 hub129 (fun h0 => Nat.ne_of_lt (hvl134 h0))
                      have hgeb129 : w.heap.size ≤ b129 := by rw [eb129]; exact hB120.size
                      have hB135 := Touch.trans hB120 (Touch.of_new hub129 (Nat.le_trans hBw hgeb129))
                      refine WL.appm Tryd.underlying32 inf5 rfl rfl rfl ho130 rfl hkb129 rfl (by rw [byteVals_len]; omega) ((Nat.le_trans hBw hB135.size)) rfl (fun v136 w137 how137 hbw137 hgw137 => ?_)
                      have hk138 := hk131.below hbw137 (by omega)
                      have hv139 := BytesAt.below hv133 hbw137 hpB
                      have hB140 := Touch.trans hB135 (Touch.of_below (hbw137.mono (Nat.le_refl _)))
                      have ho141 := Own.snoc how137 (ch ((m % 256 : Nat) : Int)) (by rw [ch_val _ (by omega) (by omega)])
                      refine WL.p (.as rfl) rfl <| WL.nil <| ?_
                      refine W.ret (W.ret1 rfl rfl ?_)
                      first
                      | exact ⟨_, rfl, t, ⟨hk138, hv139⟩, hB140, (by rw [show x = 110 from u8_eq (by assumption), esc110]; exact ho141), Nat.le_refl _, ht, (by rw [show x = 110 from u8_eq (by assumption), esc110])⟩
                      | exact ⟨_, rfl, t, ⟨hk138, hv139⟩, hB140, (by rw [show x = 114 from u8_eq (by assumption), esc114]; exact ho141), Nat.le_refl _, ht, (by rw [show x = 114 from u8_eq (by assumption), esc114])⟩
                      | exact ⟨_, rfl, t, ⟨hk138, hv139⟩, hB140, (by rw [show x = 116 from u8_eq (by assumption), esc116]; exact ho141), Nat.le_refl _, ht, (by rw [show x = 116 from u8_eq (by assumption), esc116])⟩
                      | exact ⟨_, rfl, t, ⟨hk138, hv139⟩, hB140, (by rw [show x = 98 from u8_eq (by assumption), esc98]; exact ho141), Nat.le_refl _, ht, (by rw [show x = 98 from u8_eq (by assumption), esc98])⟩
                      | exact ⟨_, rfl, t, ⟨hk138, hv139⟩, hB140, (by rw [show x = 102 from u8_eq (by assumption), esc102]; exact ho141), Nat.le_refl _, ht, (by rw [show x = 102 from u8_eq (by assumption), esc102])⟩
                      | exact ⟨_, rfl, t, ⟨hk138, hv139⟩, hB140, (by rw [show x = 10 from u8_eq (by assumption), esc10, List.append_nil]; exact ho141), Nat.le_refl _, ht, (by rw [show x = 10 from u8_eq (by assumption), esc10])⟩
                      | exact ⟨_, rfl, t, ⟨hk138, hv139⟩, hB140, (by rw [esc_else _ (by omega) (by omega) (by omega) (by omega) (by omega) (by omega) (by omega) (by omega)]; exact ho141), Nat.le_refl _, ht, (by rw [esc_else _ (by omega) (by omega) (by omega) (by omega) (by omega) (by omega) (by omega) (by omega)])⟩
                      | exact ⟨_, rfl, _, ⟨hk138, hv139⟩, hB140, (by rw [hx13, esc13, List.append_nil]; exact ho141), (next_lf l t ht).1, (next_lf l t ht).2.1, (by rw [hx13, esc13]; exact (next_lf l t ht).2.2)⟩
                      | exact ⟨_, rfl, u, ⟨hk138, hv139⟩, hB140, (by rw [esc_oct _ h48 h55, hoct]; exact ho141), hu1, hu2, (by rw [esc_oct _ h48 h55, hoct])⟩
                · have g78' := of_decide_eq_true g78
                  refine WL.gn rfl rfl rfl g78 <| WL.p (.pkT rfl g78 rfl) rfl <| WL.nil <| ?_
                  refine W.condT rfl rfl ?_
                  refine W.seq ?_
                  refine W.reg ?_ -- 18
                  refine WL.p (.mv rfl) rfl <| WL.p (.mv rfl) rfl <| WL.bsl (ps := _) Tryd.underlying32 Tryd.sizeOf5 Tryd.zeroValue5 rfl rfl rfl rfl rfl (by simp only [put1, List.map, List.zip, List.zipWith, List.set, List.replicate] <;> rfl) rfl (fun b142 wb142 eb142 hkb142 hub142 hsb142 => ?_)
                  have ho143 := Own.new hown eb142 hub142
                  have hl145 : r < b142 := by rw [eb142]; exact hr.lt
                  have hk144 := hr.upd hub142 (Nat.ne_of_lt hl145)
                  have hvl147 := fun h0 => eb142 ▸ hb.lt h0
                  have hv146 := BytesAt.upd hb hub142 (fun h0 => Nat.ne_of_lt (hvl147 h0))
                  have hgeb142 : w.heap.size ≤ b142 := by rw [eb142]; exact hB0.size
                  have hB148 := Touch.trans hB0 (Touch.of_new hub142 (Nat.le_trans hBw hgeb142))
                  refine WL.appm Tryd.underlying32 inf5 rfl rfl rfl ho143 rfl hkb142 rfl (by rw [byteVals_len]; omega) ((Nat.le_trans hBw hB148.size)) rfl (fun v149 w150 how150 hbw150 hgw150 => ?_)
                  have hk151 := hk144.below hbw150 (by omega)
                  have hv152 := BytesAt.below hv146 hbw150 hpB
                  have hB153 := Touch.trans hB148 (Touch.of_below (hbw150.mono (Nat.le_refl _)))
                  have ho154 := Own.snoc how150 (x) (rfl)
                  refine WL.p (.as rfl) rfl <| WL.nil <| ?_
                  refine W.ret (W.ret1 rfl rfl ?_)
                  first
                  | exact ⟨_, rfl, t, ⟨hk151, hv152⟩, hB153, (by rw [show x = 110 from u8_eq (by assumption), esc110]; exact ho154), Nat.le_refl _, ht, (by rw [show x = 110 from u8_eq (by assumption), esc110])⟩
                  | exact ⟨_, rfl, t, ⟨hk151, hv152⟩, hB153, (by rw [show x = 114 from u8_eq (by assumption), esc114]; exact ho154), Nat.le_refl _, ht, (by rw [show x = 114 from u8_eq (by assumption), esc114])⟩
                  | exact ⟨_, rfl, t, ⟨hk151, hv152⟩, hB153, (by rw [show x = 116 from u8_eq (by assumption), esc116]; exact ho154), Nat.le_refl _, ht, (by rw [show x = 116 from u8_eq (by assumption), esc116])⟩
                  | exact ⟨_, rfl, t, ⟨hk151, hv152⟩, hB153, (by rw [show x = 98 from u8_eq (by assumption), esc98]; exact ho154), Nat.le_refl _, ht, (by rw [show x = 98 from u8_eq (by assumption), esc98])⟩
                  | exact ⟨_, rfl, t, ⟨hk151, hv152⟩, hB153, (by rw [show x = 102 from u8_eq (by assumption), esc102]; exact ho154), Nat.le_refl _, ht, (by rw [show x = 102 from u8_eq (by assumption), esc102])⟩
                  | exact ⟨_, rfl, t, ⟨hk151, hv152⟩, hB153, (by rw [show x = 10 from u8_eq (by assumption), esc10, List.append_nil]; exact ho154), Nat.le_refl _, ht, (by rw [show x = 10 from u8_eq (by assumption), esc10])⟩
                  | exact ⟨_, rfl, t, ⟨hk151, hv152⟩, hB153, (by rw [esc_else _ (by omega) (by omega) (by omega) (by omega) (by omega) (by omega) (by omega) (by omega)]; exact ho154), Nat.le_refl _, ht, (by rw [esc_else _ (by omega) (by omega) (by omega) (by omega) (by omega) (by omega) (by omega) (by omega)])⟩
                  | exact ⟨_, rfl, _, ⟨hk151, hv152⟩, hB153, (by rw [hx13, esc13, List.append_nil]; exact ho154), (next_lf l t ht).1, (next_lf l t ht).2.1, (by rw [hx13, esc13]; exact (next_lf l t ht).2.2)⟩
                  | exact ⟨_, rfl, u, ⟨hk151, hv152⟩, hB153, (by rw [esc_oct _ h48 h55, hoct]; exact ho154), hu1, hu2, (by rw [esc_oct _ h48 h55, hoct])⟩

theorem escS_one (x : UInt8) (r : List UInt8) : (escS x r).1.length ≤ 1 := by
  unfold escS
  repeat' split
  all_goals simp
theorem scan_round (r : Nat) (p : Option Addr) (l : List UInt8) (c t : Nat) (w : World) (h : RdOk w r p l c t) (hne : 0 < l.length → (pA p).block ≠ r) (hc : l.length ≤ c) (hl : l.length ≤ 1000000) (ht : t ≤ l.length) :
    Calls Tryd.prog 77 #[.pointer (some ⟨r, 0, none⟩)] w (Ends 28 (textS (roundS 1 [] (l.drop t))) (fun a => a.1.val) (Read w r p l c) (fun w' => Touch w.heap.size r w w')) := by
  have hr := h.1
  have hb := h.2
  obtain ⟨R, hR⟩ : ∃ R, R = roundS 1 [] (l.drop t) := ⟨_, rfl⟩
  rw [← hR]
  obtain ⟨a, rfl⟩ : ∃ a, a = t := ⟨t, rfl⟩
  refine W.enter Tryd.func77 rfl Tryd.ntmps77 (Nat.le_of_ble_eq_true rfl) ?_
  have hB0 := Touch.refl (w.heap.size) r w
  refine W.seq ?_
  refine W.reg ?_ -- 0
  refine WL.alloc Tryd.zeroValue27 rfl (fun b1 wb1 eb1 hkb1 hub1 hsb1 => ?_)
  have hl3 : r < b1 := by rw [eb1]; exact hr.lt
  have hk2 := hr.upd hub1 (Nat.ne_of_lt hl3)
  have hvl5 := fun h0 => eb1 ▸ hb.lt h0
  have hv4 := BytesAt.upd hb hub1 (fun h0 => Nat.ne_of_lt (hvl5 h0))
  have hgeb1 : w.heap.size ≤ b1 := by rw [eb1]; exact hB0.size
  have hB6 := Touch.trans hB0 (Touch.of_new hub1 hgeb1)
  refine WL.nil <| ?_
  refine W.seq ?_
  have hpB : 0 < l.length → (pA p).block < b1 + 1 := fun h0 => by have := hb.lt h0; omega
  have hrB : r < b1 := by have := hr.lt; omega
  refine W.reg ?_ -- 1
  refine WL.p (.as rfl) rfl <| WL.nil <| ?_
  refine W.seq ?_
  refine W.reg ?_ -- 2
  refine WL.p (.as rfl) rfl <| WL.nil <| ?_
  refine W.block ?_
  -- loop 1: writes [3, 4, 5, 6, 7, 8, 9, 10, 11, 12, 13, 14, 15, 16, 17, 18, 19, 20, 21, 22, 23, 24, 25, 26, 27, 28, 29, 30, 31, 32, 33, 34, 35]; reads from outside [0, 2, 3, 4]
  refine W.loop (α := Value × List UInt8 × Nat × Nat) (fun t => [(0, .pointer (some ⟨r, 0, none⟩)), (2, .pointer (some ⟨b1, 0, none⟩)), (3, t.1), (4, .int .i64 (t.2.2.1 : Int))]) (fun t w' => RdOk w' r p l c t.2.2.2 ∧ Touch w.heap.size r w w' ∧ Blk w' b1 #[.int .i64 0, .int .i64 0, .string ⟨#[]⟩] 27 ∧ Own 5 (b1 + 1) w' t.1 (byteVals t.2.1) ∧ roundS t.2.2.1 t.2.1 (l.drop t.2.2.2) = R ∧ 1 ≤ t.2.2.1 ∧ t.2.2.1 ≤ t.2.2.2 + 1 ∧ t.2.1.length ≤ t.2.2.2 ∧ t.2.2.2 ≤ l.length) (fun t => l.length - t.2.2.2) ((.slice none 0 0, [], 1, a)) ⟨rfl, rfl, rfl, rfl, trivial⟩ (⟨⟨hk2, hv4⟩, hB6, hkb1, Own.nil _ _ _, hR.symm, Nat.le_refl _, by ((try simp only) <;> omega), Nat.zero_le _, ht⟩) (fun t w1 hR => ?_)
  obtain ⟨v, o, d, s⟩ := t
  obtain ⟨hrd, hT, hbk, hown, hw, hd1, hds, hol, hs⟩ := hR
  simp only at hrd hT hbk hown hw hd1 hds hol hs ⊢
  refine W.block ?_
  refine W.seq ?_
  refine W.reg ?_ -- 3
  refine WL.p (.mv rfl) rfl <| WL.ce hb100 rfl rfl ((scan_take r p l c s _ ⟨hrd.1, hrd.2⟩ hne hl)) (fun k9 w7 hrw7 hw7 => ?_) (fun a8 w7 hrw7 hw7 => ?_)
  · skip
    have hBew7 := Touch.trans hT (Touch.mono hw7 hT.size)
    exact pn_is (Ends.err k9 (by rw [(takeS_err hrw7).2, ← hw, List.drop_eq_nil_of_le (takeS_err hrw7).1, roundS.eq_def]; (first | done | rfl)) hBew7)
  · skip
    have ho10 := Own.touch' hown hw7.2 (by omega)
    have hk11 := hw7.1.1
    have hk12 := Blk.touch hbk hw7.2 hbk.lt (by omega)
    have hv13 := hw7.1.2
    have hB14 := Touch.trans hT (Touch.mono hw7.2 hT.size)
    obtain ⟨hlt, hx⟩ := takeS_ok hrw7
    obtain ⟨x, hxx⟩ : ∃ x, x = a8 := ⟨_, rfl⟩
    rw [← hxx] at hx ⊢
    have hst := roundS_at d o l s hlt
    rw [← hx] at hst
    refine WL.p (.as rfl) rfl <| WL.nil <| ?_
    refine W.seq ?_
    refine W.seq ?_
    refine W.reg ?_ -- 4
    refine WL.p (.mv rfl) rfl <| WL.nil <| ?_
    refine W.block ?_
    refine W.seq ?_
    refine W.reg ?_ -- 5
    refine WL.p (.eql rfl rfl) rfl <| WL.p (.as rfl) rfl <| WL.nil <| ?_
    refine W.cond rfl (fun h15 => ?_) (fun h15 => ?_) -- slot 9
    · have h15' := of_decide_eq_true h15
      refine W.reg ?_ -- 6
      refine WL.p (.mv rfl) rfl <| WL.p (.iis (((d + 1 : Nat) : Int)) (.add rfl rfl (i64w (by omega))) (by omega)) rfl <| WL.p (.as rfl) rfl <| WL.nil <| ?_
      refine W.seq ?_
      refine W.seq ?_
      refine W.reg ?_ -- 14
      refine WL.p (.mv rfl) rfl <| WL.p (.eql rfl rfl) rfl <| WL.nil <| ?_
      refine W.cond rfl (fun h16 => ?_) (fun h16 => ?_) -- slot 29
      · have h16' := of_decide_eq_true h16
        refine W.seq ?_
        obtain ⟨q, cq, rfl, hqb, hqB⟩ := Own.bytes ho10
        refine W.reg ?_ -- 15
        refine WL.p (.mv rfl) rfl <| WL.ce hb103 rfl rfl ((scan_text q _ cq _ hqb (by omega))) (fun k19 w17 hrw17 hw17 => ?_) (fun a18 w17 hrw17 hw17 => ?_)
        · skip
          have hBew17 := Touch.trans hB14 (Touch.mono (Touch.of_below hw17) hB14.size)
          first
          | (exfalso; omega)
          | exact pn_is (Ends.err k19 (by rw [← hw, hst, show x = 41 from u8_eq (by assumption), if_neg (by decide), if_pos rfl, if_pos (by omega)]; exact textS_err hrw17) hBew17)
        · skip
          have ho20 := Own.below ho10 hw17
          have hk21 := hk11.below hw17 hk11.lt
          have hk22 := hk12.below hw17 hk12.lt
          have hv23 := BytesAt.below hv13 hw17 (fun h0 => hv13.lt h0)
          have hB24 := Touch.trans hB14 (Touch.mono (Touch.of_below hw17) hB14.size)
          obtain ⟨a0, ha0⟩ : ∃ a0, a0 = a18 := ⟨_, rfl⟩
          have hra := hrw17
          refine WL.stL rfl rfl hk22 isz27 rfl rfl (fun w25 hkw25 huw25 hsw25 => ?_)
          have ho26 := Own.touch ho20 huw25 (by omega)
          have hk27 := hk21.upd huw25 (by ((try simp only) <;> omega))
          have hv28 := BytesAt.upd hv23 huw25 (fun h0 => Nat.ne_of_lt (hvl5 h0))
          have hB29 := Touch.trans hB24 (Touch.of_new huw25 (by omega))
          refine WL.nil <| ?_
          refine W.ret (W.retc1 rfl rfl (ldRow hkw25 Tryd.underlying27 rfl isz27)  ?_)
          first
          | (exfalso; omega)
          | exact Ends.ok (_, l.drop (s + 1)) (by rw [← hw, hst, show x = 41 from u8_eq (by assumption), if_neg (by decide), if_pos rfl, if_pos (by omega)]; exact textS_ok hra) rfl ⟨_, rfl, by omega, ⟨hk27, hv28⟩, hB29⟩
      · have h16' := of_decide_eq_false h16
        refine W.skip ?_
        refine W.reg ?_ -- 16
        refine WL.p (.mv rfl) rfl <| WL.p (.mv rfl) rfl <| WL.bsl (ps := _) Tryd.underlying32 Tryd.sizeOf5 Tryd.zeroValue5 rfl rfl rfl rfl rfl (by simp only [put1, List.map, List.zip, List.zipWith, List.set, List.replicate] <;> rfl) rfl (fun b30 wb30 eb30 hkb30 hub30 hsb30 => ?_)
        have ho31 := Own.new ho10 eb30 hub30
        have hl33 : r < b30 := by rw [eb30]; exact hk11.lt
        have hk32 := hk11.upd hub30 (Nat.ne_of_lt hl33)
        have hl35 : b1 < b30 := by rw [eb30]; exact hk12.lt
        have hk34 := hk12.upd hub30 (Nat.ne_of_lt hl35)
        have hvl37 := fun h0 => eb30 ▸ hv13.lt h0
        have hv36 := BytesAt.upd hv13 hub30 (fun h0 => Nat.ne_of_lt (hvl37 h0))
        have hgeb30 : w.heap.size ≤ b30 := by rw [eb30]; exact hB14.size
        have hB38 := Touch.trans hB14 (Touch.of_new hub30 hgeb30)
        refine WL.appm Tryd.underlying32 inf5 rfl rfl rfl ho31 rfl hkb30 rfl (by rw [byteVals_len]; omega) (hk34.lt) rfl (fun v39 w40 how40 hbw40 hgw40 => ?_)
        have hk41 := hk32.below hbw40 (by omega)
        have hk42 := hk34.below hbw40 (by omega)
        have hv43 := BytesAt.below hv36 hbw40 hpB
        have hB44 := Touch.trans hB38 (Touch.of_below (hbw40.mono (by omega)))
        have ho45 := Own.snoc how40 (x) (rfl)
        refine WL.p (.as rfl) rfl <| WL.nil <| ?_
        first
        | exact ⟨(v2, o ++ (escS y (l.drop (s + 1 + 1))).1, d, k2), ⟨rfl, rfl, rfl, rfl, trivial⟩, ⟨⟨hk41, hv43⟩, hB44, hk42, ho45, (by rw [hk2c, ← hw, hst, show x = 92 from u8_eq (by assumption), if_neg (by decide), if_neg (by decide), if_pos rfl, List.drop_eq_getElem_cons hlt2, ← hx2]), hd1, by ((try simp only) <;> omega), (by simp only [List.length_append, List.length_cons, List.length_nil]; omega), by ((try simp only) <;> omega)⟩, by ((try simp only) <;> omega)⟩
        | exact ⟨(_, o ++ [_], d + 1, s + 1), ⟨rfl, rfl, rfl, rfl, trivial⟩, ⟨⟨hk41, hv43⟩, hB44, hk42, ho45, (by rw [← hw, hst, show x = 40 from u8_eq (by assumption), if_pos rfl]), by ((try simp only) <;> omega), by ((try simp only) <;> omega), (by simp only [List.length_append, List.length_cons, List.length_nil]; omega), by ((try simp only) <;> omega)⟩, by ((try simp only) <;> omega)⟩
        | exact ⟨(_, o ++ [_], d - 1, s + 1), ⟨rfl, rfl, rfl, rfl, trivial⟩, ⟨⟨hk41, hv43⟩, hB44, hk42, ho45, (by rw [← hw, hst, show x = 41 from u8_eq (by assumption), if_neg (by decide), if_pos rfl, if_neg (by omega)]), by ((try simp only) <;> omega), by ((try simp only) <;> omega), (by simp only [List.length_append, List.length_cons, List.length_nil]; omega), by ((try simp only) <;> omega)⟩, by ((try simp only) <;> omega)⟩
        | exact ⟨(_, o ++ [_], d, (if nextB l (s + 1) 10 then s + 1 + 1 else s + 1)), ⟨rfl, rfl, rfl, rfl, trivial⟩, ⟨⟨hk41, hv43⟩, hB44, hk42, ho45, (by show roundS d (o ++ [10]) (l.drop (if nextB l (s + 1) 10 then s + 1 + 1 else s + 1)) = R; rw [hnl.2.2, ← hw, hst, show x = 13 from u8_eq (by assumption), if_neg (by decide), if_neg (by decide), if_neg (by decide), if_pos rfl]), by ((try simp only) <;> omega), by ((try simp only) <;> omega), (by simp only [List.length_append, List.length_cons, List.length_nil]; omega), by ((try simp only) <;> omega)⟩, by ((try simp only) <;> omega)⟩
        | exact ⟨(_, o ++ [_], d, s + 1), ⟨rfl, rfl, rfl, rfl, trivial⟩, ⟨⟨hk41, hv43⟩, hB44, hk42, ho45, (by rw [← hw, hst, if_neg (u8_ne (d := 40) (by assumption)), if_neg (u8_ne (d := 41) (by assumption)), if_neg (u8_ne (d := 92) (by assumption)), if_neg (u8_ne (d := 13) (by assumption))]), by ((try simp only) <;> omega), by ((try simp only) <;> omega), (by simp only [List.length_append, List.length_cons, List.length_nil]; omega), by ((try simp only) <;> omega)⟩, by ((try simp only) <;> omega)⟩
    · have h15' := of_decide_eq_false h15
      refine W.seq ?_
      refine W.reg ?_ -- 7
      refine WL.p (.eql rfl rfl) rfl <| WL.p (.as rfl) rfl <| WL.nil <| ?_
      refine W.cond rfl (fun h46 => ?_) (fun h46 => ?_) -- slot 13
      · have h46' := of_decide_eq_true h46
        refine W.reg ?_ -- 8
        refine WL.p (.mv rfl) rfl <| WL.p (.iis (((d - 1 : Nat) : Int)) (.sub rfl rfl (i64w (by omega))) (by omega)) rfl <| WL.p (.as rfl) rfl <| WL.nil <| ?_
        refine W.seq ?_
        refine W.seq ?_
        refine W.reg ?_ -- 14
        refine WL.p (.mv rfl) rfl <| WL.p (.eql rfl rfl) rfl <| WL.nil <| ?_
        refine W.cond rfl (fun h47 => ?_) (fun h47 => ?_) -- slot 29
        · have h47' := of_decide_eq_true h47
          refine W.seq ?_
          obtain ⟨q, cq, rfl, hqb, hqB⟩ := Own.bytes ho10
          refine W.reg ?_ -- 15
          refine WL.p (.mv rfl) rfl <| WL.ce hb103 rfl rfl ((scan_text q _ cq _ hqb (by omega))) (fun k50 w48 hrw48 hw48 => ?_) (fun a49 w48 hrw48 hw48 => ?_)
          · skip
            have hBew48 := Touch.trans hB14 (Touch.mono (Touch.of_below hw48) hB14.size)
            first
            | (exfalso; omega)
            | exact pn_is (Ends.err k50 (by rw [← hw, hst, show x = 41 from u8_eq (by assumption), if_neg (by decide), if_pos rfl, if_pos (by omega)]; exact textS_err hrw48) hBew48)
          · skip
            have ho51 := Own.below ho10 hw48
            have hk52 := hk11.below hw48 hk11.lt
            have hk53 := hk12.below hw48 hk12.lt
            have hv54 := BytesAt.below hv13 hw48 (fun h0 => hv13.lt h0)
            have hB55 := Touch.trans hB14 (Touch.mono (Touch.of_below hw48) hB14.size)
            obtain ⟨a0, ha0⟩ : ∃ a0, a0 = a49 := ⟨_, rfl⟩
            have hra := hrw48
            refine WL.stL rfl rfl hk53 isz27 rfl rfl (fun w56 hkw56 huw56 hsw56 => ?_)
            have ho57 := Own.touch ho51 huw56 (by omega)
            have hk58 := hk52.upd huw56 (by ((try simp only) <;> omega))
            have hv59 := BytesAt.upd hv54 huw56 (fun h0 => Nat.ne_of_lt (hvl5 h0))
            have hB60 := Touch.trans hB55 (Touch.of_new huw56 (by omega))
            refine WL.nil <| ?_
            refine W.ret (W.retc1 rfl rfl (ldRow hkw56 Tryd.underlying27 rfl isz27)  ?_)
            first
            | (exfalso; omega)
            | exact Ends.ok (_, l.drop (s + 1)) (by rw [← hw, hst, show x = 41 from u8_eq (by assumption), if_neg (by decide), if_pos rfl, if_pos (by omega)]; exact textS_ok hra) rfl ⟨_, rfl, by omega, ⟨hk58, hv59⟩, hB60⟩
        · have h47' := of_decide_eq_false h47
          refine W.skip ?_
          refine W.reg ?_ -- 16
          refine WL.p (.mv rfl) rfl <| WL.p (.mv rfl) rfl <| WL.bsl (ps := _) Tryd.underlying32 Tryd.sizeOf5 Tryd.zeroValue5 rfl rfl rfl rfl rfl (by simp only [put1, List.map, List.zip, List.zipWith, List.set, List.replicate] <;> rfl) rfl (fun b61 wb61 eb61 hkb61 hub61 hsb61 => ?_)
          have ho62 := Own.new ho10 eb61 hub61
          have hl64 : r < b61 := by rw [eb61]; exact hk11.lt
          have hk63 := hk11.upd hub61 (Nat.ne_of_lt hl64)
          have hl66 : b1 < b61 := by rw [eb61]; exact hk12.lt
          have hk65 := hk12.upd hub61 (Nat.ne_of_lt hl66)
          have hvl68 := fun h0 => eb61 ▸ hv13.lt h0
          have hv67 := BytesAt.upd hv13 hub61 (fun h0 => Nat.ne_of_lt (hvl68 h0))
          have hgeb61 : w.heap.size ≤ b61 := by rw [eb61]; exact hB14.size
          have hB69 := Touch.trans hB14 (Touch.of_new hub61 hgeb61)
          refine WL.appm Tryd.underlying32 inf5 rfl rfl rfl ho62 rfl hkb61 rfl (by rw [byteVals_len]; omega) (hk65.lt) rfl (fun v70 w71 how71 hbw71 hgw71 => ?_)
          have hk72 := hk63.below hbw71 (by omega)
          have hk73 := hk65.below hbw71 (by omega)
          have hv74 := BytesAt.below hv67 hbw71 hpB
          have hB75 := Touch.trans hB69 (Touch.of_below (hbw71.mono (by omega)))
          have ho76 := Own.snoc how71 (x) (rfl)
          refine WL.p (.as rfl) rfl <| WL.nil <| ?_
          first
          | exact ⟨(v2, o ++ (escS y (l.drop (s + 1 + 1))).1, d, k2), ⟨rfl, rfl, rfl, rfl, trivial⟩, ⟨⟨hk72, hv74⟩, hB75, hk73, ho76, (by rw [hk2c, ← hw, hst, show x = 92 from u8_eq (by assumption), if_neg (by decide), if_neg (by decide), if_pos rfl, List.drop_eq_getElem_cons hlt2, ← hx2]), hd1, by ((try simp only) <;> omega), (by simp only [List.length_append, List.length_cons, List.length_nil]; omega), by ((try simp only) <;> omega)⟩, by ((try simp only) <;> omega)⟩
          | exact ⟨(_, o ++ [_], d + 1, s + 1), ⟨rfl, rfl, rfl, rfl, trivial⟩, ⟨⟨hk72, hv74⟩, hB75, hk73, ho76, (by rw [← hw, hst, show x = 40 from u8_eq (by assumption), if_pos rfl]), by ((try simp only) <;> omega), by ((try simp only) <;> omega), (by simp only [List.length_append, List.length_cons, List.length_nil]; omega), by ((try simp only) <;> omega)⟩, by ((try simp only) <;> omega)⟩
          | exact ⟨(_, o ++ [_], d - 1, s + 1), ⟨rfl, rfl, rfl, rfl, trivial⟩, ⟨⟨hk72, hv74⟩, hB75, hk73, ho76, (by rw [← hw, hst, show x = 41 from u8_eq (by assumption), if_neg (by decide), if_pos rfl, if_neg (by omega)]), by ((try simp only) <;> omega), by ((try simp only) <;> omega), (by simp only [List.length_append, List.length_cons, List.length_nil]; omega), by ((try simp only) <;> omega)⟩, by ((try simp only) <;> omega)⟩
          | exact ⟨(_, o ++ [_], d, (if nextB l (s + 1) 10 then s + 1 + 1 else s + 1)), ⟨rfl, rfl, rfl, rfl, trivial⟩, ⟨⟨hk72, hv74⟩, hB75, hk73, ho76, (by show roundS d (o ++ [10]) (l.drop (if nextB l (s + 1) 10 then s + 1 + 1 else s + 1)) = R; rw [hnl.2.2, ← hw, hst, show x = 13 from u8_eq (by assumption), if_neg (by decide), if_neg (by decide), if_neg (by decide), if_pos rfl]), by ((try simp only) <;> omega), by ((try simp only) <;> omega), (by simp only [List.length_append, List.length_cons, List.length_nil]; omega), by ((try simp only) <;> omega)⟩, by ((try simp only) <;> omega)⟩
          | exact ⟨(_, o ++ [_], d, s + 1), ⟨rfl, rfl, rfl, rfl, trivial⟩, ⟨⟨hk72, hv74⟩, hB75, hk73, ho76, (by rw [← hw, hst, if_neg (u8_ne (d := 40) (by assumption)), if_neg (u8_ne (d := 41) (by assumption)), if_neg (u8_ne (d := 92) (by assumption)), if_neg (u8_ne (d := 13) (by assumption))]), by ((try simp only) <;> omega), by ((try simp only) <;> omega), (by simp only [List.length_append, List.length_cons, List.length_nil]; omega), by ((try simp only) <;> omega)⟩, by ((try simp only) <;> omega)⟩
      · have h46' := of_decide_eq_false h46
        refine W.seq ?_
        refine W.reg ?_ -- 9
        refine WL.p (.eql rfl rfl) rfl <| WL.p (.as rfl) rfl <| WL.nil <| ?_
        refine W.cond rfl (fun h77 => ?_) (fun h77 => ?_) -- slot 17
        · have h77' := of_decide_eq_true h77
          refine W.seq ?_
          refine W.reg ?_ -- 10
          refine WL.p (.mv rfl) rfl <| WL.p (.mv rfl) rfl <| WL.p (.mv rfl) rfl <| WL.ce hb100 rfl rfl ((scan_take r p l c (s + 1) _ ⟨hk11, hv13⟩ hne hl)) (fun k80 w78 hrw78 hw78 => ?_) (fun a79 w78 hrw78 hw78 => ?_)
          · skip
            have hBew78 := Touch.trans hB14 (Touch.mono hw78 hB14.size)
            exact pn_is (Ends.err k80 (by rw [(takeS_err hrw78).2, ← hw, hst, show x = 92 from u8_eq (by assumption), if_neg (by decide), if_neg (by decide), if_pos rfl, List.drop_eq_nil_of_le (takeS_err hrw78).1]; (first | done | rfl)) hBew78)
          · skip
            have ho81 := Own.touch' ho10 hw78.2 (by omega)
            have hk82 := hw78.1.1
            have hk83 := Blk.touch hk12 hw78.2 hk12.lt (by omega)
            have hv84 := hw78.1.2
            have hB85 := Touch.trans hB14 (Touch.mono hw78.2 hB14.size)
            obtain ⟨hlt2, hx2⟩ := takeS_ok hrw78
            obtain ⟨y, hyy⟩ : ∃ y, y = a79 := ⟨_, rfl⟩
            rw [← hyy] at hx2 ⊢
            refine WL.call hb101 rfl rfl ((scan_escape (b1 + 1) r p l c (s + 1 + 1) y v o _ ⟨hk82, hv84⟩ hne hl (by omega) (by omega) (hk83).lt hpB ho81 (by omega))) (fun v2 w86 hw86 => ?_)
            obtain ⟨k2, hrd2, hT2, ho2, hk2a, hk2b, hk2c⟩ := hw86
            have hbk2 := Blk.touch hk83 hT2 (by omega) (by omega)
            have hB2 := Touch.trans hB85 (hT2.mono (by omega))
            have hol2 := escS_one y (l.drop (s + 1 + 1))
            refine WL.p (.as rfl) rfl <| WL.nil <| ?_
            refine W.exit ?_ -- 1
            first
            | exact ⟨(v2, o ++ (escS y (l.drop (s + 1 + 1))).1, d, k2), ⟨rfl, rfl, rfl, rfl, trivial⟩, ⟨⟨hrd2.1, hrd2.2⟩, hB2, hbk2, ho2, (by rw [hk2c, ← hw, hst, show x = 92 from u8_eq (by assumption), if_neg (by decide), if_neg (by decide), if_pos rfl, List.drop_eq_getElem_cons hlt2, ← hx2]), hd1, by ((try simp only) <;> omega), (by simp only [List.length_append, List.length_cons, List.length_nil]; omega), by ((try simp only) <;> omega)⟩, by ((try simp only) <;> omega)⟩
            | exact ⟨(_, o ++ [_], d + 1, s + 1), ⟨rfl, rfl, rfl, rfl, trivial⟩, ⟨⟨hrd2.1, hrd2.2⟩, hB2, hbk2, ho2, (by rw [← hw, hst, show x = 40 from u8_eq (by assumption), if_pos rfl]), by ((try simp only) <;> omega), by ((try simp only) <;> omega), (by simp only [List.length_append, List.length_cons, List.length_nil]; omega), by ((try simp only) <;> omega)⟩, by ((try simp only) <;> omega)⟩
            | exact ⟨(_, o ++ [_], d - 1, s + 1), ⟨rfl, rfl, rfl, rfl, trivial⟩, ⟨⟨hrd2.1, hrd2.2⟩, hB2, hbk2, ho2, (by rw [← hw, hst, show x = 41 from u8_eq (by assumption), if_neg (by decide), if_pos rfl, if_neg (by omega)]), by ((try simp only) <;> omega), by ((try simp only) <;> omega), (by simp only [List.length_append, List.length_cons, List.length_nil]; omega), by ((try simp only) <;> omega)⟩, by ((try simp only) <;> omega)⟩
            | exact ⟨(_, o ++ [_], d, (if nextB l (s + 1) 10 then s + 1 + 1 else s + 1)), ⟨rfl, rfl, rfl, rfl, trivial⟩, ⟨⟨hrd2.1, hrd2.2⟩, hB2, hbk2, ho2, (by show roundS d (o ++ [10]) (l.drop (if nextB l (s + 1) 10 then s + 1 + 1 else s + 1)) = R; rw [hnl.2.2, ← hw, hst, show x = 13 from u8_eq (by assumption), if_neg (by decide), if_neg (by decide), if_neg (by decide), if_pos rfl]), by ((try simp only) <;> omega), by ((try simp only) <;> omega), (by simp only [List.length_append, List.length_cons, List.length_nil]; omega), by ((try simp only) <;> omega)⟩, by ((try simp only) <;> omega)⟩
            | exact ⟨(_, o ++ [_], d, s + 1), ⟨rfl, rfl, rfl, rfl, trivial⟩, ⟨⟨hrd2.1, hrd2.2⟩, hB2, hbk2, ho2, (by rw [← hw, hst, if_neg (u8_ne (d := 40) (by assumption)), if_neg (u8_ne (d := 41) (by assumption)), if_neg (u8_ne (d := 92) (by assumption)), if_neg (u8_ne (d := 13) (by assumption))]), by ((try simp only) <;> omega), by ((try simp only) <;> omega), (by simp only [List.length_append, List.length_cons, List.length_nil]; omega), by ((try simp only) <;> omega)⟩, by ((try simp only) <;> omega)⟩
        · have h77' := of_decide_eq_false h77
          refine W.seq ?_
          refine W.reg ?_ -- 11
          refine WL.p (.eql rfl rfl) rfl <| WL.p (.as rfl) rfl <| WL.nil <| ?_
          refine W.cond rfl (fun h87 => ?_) (fun h87 => ?_) -- slot 24
          · have h87' := of_decide_eq_true h87
            refine W.seq ?_
            refine W.reg ?_ -- 12
            refine WL.p (.mv rfl) rfl <| WL.c1 hb102 rfl rfl ((scan_next r p l c (s + 1) 10 _ ⟨hk11, hv13⟩ hne hl (by omega))) (fun w88 hw88 => ?_)
            have ho89 := Own.touch' ho10 hw88.2 (by omega)
            have hk90 := hw88.1.1
            have hk91 := Blk.touch hk12 hw88.2 hk12.lt (by omega)
            have hv92 := hw88.1.2
            have hB93 := Touch.trans hB14 (Touch.mono hw88.2 hB14.size)
            have hnl := next_lf l (s + 1) (by omega)
            refine WL.nil <| ?_
            refine W.reg ?_ -- 13
            refine WL.p (.as rfl) rfl <| WL.nil <| ?_
            refine W.seq ?_
            refine W.seq ?_
            refine W.reg ?_ -- 14
            refine WL.p (.mv rfl) rfl <| WL.p (.eql rfl rfl) rfl <| WL.nil <| ?_
            refine W.cond rfl (fun h94 => ?_) (fun h94 => ?_) -- slot 29
            · have h94' := of_decide_eq_true h94
              refine W.seq ?_
              obtain ⟨q, cq, rfl, hqb, hqB⟩ := Own.bytes ho89
              refine W.reg ?_ -- 15
              refine WL.p (.mv rfl) rfl <| WL.ce hb103 rfl rfl ((scan_text q _ cq _ hqb (by omega))) (fun k97 w95 hrw95 hw95 => ?_) (fun a96 w95 hrw95 hw95 => ?_)
              · skip
                have hBew95 := Touch.trans hB93 (Touch.mono (Touch.of_below hw95) hB93.size)
                first
                | (exfalso; omega)
                | exact pn_is (Ends.err k97 (by rw [← hw, hst, show x = 41 from u8_eq (by assumption), if_neg (by decide), if_pos rfl, if_pos (by omega)]; exact textS_err hrw95) hBew95)
              · skip
                have ho98 := Own.below ho89 hw95
                have hk99 := hk90.below hw95 hk90.lt
                have hk100 := hk91.below hw95 hk91.lt
                have hv101 := BytesAt.below hv92 hw95 (fun h0 => hv92.lt h0)
                have hB102 := Touch.trans hB93 (Touch.mono (Touch.of_below hw95) hB93.size)
                obtain ⟨a0, ha0⟩ : ∃ a0, a0 = a96 := ⟨_, rfl⟩
                have hra := hrw95
                refine WL.stL rfl rfl hk100 isz27 rfl rfl (fun w103 hkw103 huw103 hsw103 => ?_)
                have ho104 := Own.touch ho98 huw103 (by omega)
                have hk105 := hk99.upd huw103 (by ((try simp only) <;> omega))
                have hv106 := BytesAt.upd hv101 huw103 (fun h0 => Nat.ne_of_lt (hvl5 h0))
                have hB107 := Touch.trans hB102 (Touch.of_new huw103 (by omega))
                refine WL.nil <| ?_
                refine W.ret (W.retc1 rfl rfl (ldRow hkw103 Tryd.underlying27 rfl isz27)  ?_)
                first
                | (exfalso; omega)
                | exact Ends.ok (_, l.drop (s + 1)) (by rw [← hw, hst, show x = 41 from u8_eq (by assumption), if_neg (by decide), if_pos rfl, if_pos (by omega)]; exact textS_ok hra) rfl ⟨_, rfl, by omega, ⟨hk105, hv106⟩, hB107⟩
            · have h94' := of_decide_eq_false h94
              refine W.skip ?_
              refine W.reg ?_ -- 16
              refine WL.p (.mv rfl) rfl <| WL.p (.mv rfl) rfl <| WL.bsl (ps := _) Tryd.underlying32 Tryd.sizeOf5 Tryd.zeroValue5 rfl rfl rfl rfl rfl (by simp only [put1, List.map, List.zip, List.zipWith, List.set, List.replicate] <;> rfl) rfl (fun b108 wb108 eb108 hkb108 hub108 hsb108 => ?_)
              have ho109 := Own.new ho89 eb108 hub108
              have hl111 : r < b108 := by rw [eb108]; exact hk90.lt
              have hk110 := hk90.upd hub108 (Nat.ne_of_lt hl111)
              have hl113 : b1 < b108 := by rw [eb108]; exact hk91.lt
              have hk112 := hk91.upd hub108 (Nat.ne_of_lt hl113)
              have hvl115 := fun h0 => eb108 ▸ hv92.lt h0
              have hv114 := BytesAt.upd hv92 hub108 (fun h0 => Nat.ne_of_lt (hvl115 h0))
              have hgeb108 : w.heap.size ≤ b108 := by rw [eb108]; exact hB93.size
              have hB116 := Touch.trans hB93 (Touch.of_new hub108 hgeb108)
              refine WL.appm Tryd.underlying32 inf5 rfl rfl rfl ho109 rfl hkb108 rfl (by rw [byteVals_len]; omega) (hk112.lt) rfl (fun v117 w118 how118 hbw118 hgw118 => ?_)
              have hk119 := hk110.below hbw118 (by omega)
              have hk120 := hk112.below hbw118 (by omega)
              have hv121 := BytesAt.below hv114 hbw118 hpB
              have hB122 := Touch.trans hB116 (Touch.of_below (hbw118.mono (by omega)))
              have ho123 := Own.snoc how118 (10) (rfl)
              refine WL.p (.as rfl) rfl <| WL.nil <| ?_
              first
              | exact ⟨(v2, o ++ (escS y (l.drop (s + 1 + 1))).1, d, k2), ⟨rfl, rfl, rfl, rfl, trivial⟩, ⟨⟨hk119, hv121⟩, hB122, hk120, ho123, (by rw [hk2c, ← hw, hst, show x = 92 from u8_eq (by assumption), if_neg (by decide), if_neg (by decide), if_pos rfl, List.drop_eq_getElem_cons hlt2, ← hx2]), hd1, by ((try simp only) <;> omega), (by simp only [List.length_append, List.length_cons, List.length_nil]; omega), by ((try simp only) <;> omega)⟩, by ((try simp only) <;> omega)⟩
              | exact ⟨(_, o ++ [_], d + 1, s + 1), ⟨rfl, rfl, rfl, rfl, trivial⟩, ⟨⟨hk119, hv121⟩, hB122, hk120, ho123, (by rw [← hw, hst, show x = 40 from u8_eq (by assumption), if_pos rfl]), by ((try simp only) <;> omega), by ((try simp only) <;> omega), (by simp only [List.length_append, List.length_cons, List.length_nil]; omega), by ((try simp only) <;> omega)⟩, by ((try simp only) <;> omega)⟩
              | exact ⟨(_, o ++ [_], d - 1, s + 1), ⟨rfl, rfl, rfl, rfl, trivial⟩, ⟨⟨hk119, hv121⟩, hB122, hk120, ho123, (by rw [← hw, hst, show x = 41 from u8_eq (by assumption), if_neg (by decide), if_pos rfl, if_neg (by omega)]), by ((try simp only) <;> omega), by ((try simp only) <;> omega), (by simp only [List.length_append, List.length_cons, List.length_nil]; omega), by ((try simp only) <;> omega)⟩, by ((try simp only) <;> omega)⟩
              | exact ⟨(_, o ++ [_], d, (if nextB l (s + 1) 10 then s + 1 + 1 else s + 1)), ⟨rfl, rfl, rfl, rfl, trivial⟩, ⟨⟨hk119, hv121⟩, hB122, hk120, ho123, (by show roundS d (o ++ [10]) (l.drop (if nextB l (s + 1) 10 then s + 1 + 1 else s + 1)) = R; rw [hnl.2.2, ← hw, hst, show x = 13 from u8_eq (by assumption), if_neg (by decide), if_neg (by decide), if_neg (by decide), if_pos rfl]), by ((try simp only) <;> omega), by ((try simp only) <;> omega), (by simp only [List.length_append, List.length_cons, List.length_nil]; omega), by ((try simp only) <;> omega)⟩, by ((try simp only) <;> omega)⟩
              | exact ⟨(_, o ++ [_], d, s + 1), ⟨rfl, rfl, rfl, rfl, trivial⟩, ⟨⟨hk119, hv121⟩, hB122, hk120, ho123, (by rw [← hw, hst, if_neg (u8_ne (d := 40) (by assumption)), if_neg (u8_ne (d := 41) (by assumption)), if_neg (u8_ne (d := 92) (by assumption)), if_neg (u8_ne (d := 13) (by assumption))]), by ((try simp only) <;> omega), by ((try simp only) <;> omega), (by simp only [List.length_append, List.length_cons, List.length_nil]; omega), by ((try simp only) <;> omega)⟩, by ((try simp only) <;> omega)⟩
          · have h87' := of_decide_eq_false h87
            refine W.skip ?_
            refine W.seq ?_
            refine W.seq ?_
            refine W.reg ?_ -- 14
            refine WL.p (.mv rfl) rfl <| WL.p (.eql rfl rfl) rfl <| WL.nil <| ?_
            refine W.cond rfl (fun h124 => ?_) (fun h124 => ?_) -- slot 29
            · have h124' := of_decide_eq_true h124
              refine W.seq ?_
              obtain ⟨q, cq, rfl, hqb, hqB⟩ := Own.bytes ho10
              refine W.reg ?_ -- 15
              refine WL.p (.mv rfl) rfl <| WL.ce hb103 rfl rfl ((scan_text q _ cq _ hqb (by omega))) (fun k127 w125 hrw125 hw125 => ?_) (fun a126 w125 hrw125 hw125 => ?_)
              · skip
                have hBew125 := Touch.trans hB14 (Touch.mono (Touch.of_below hw125) hB14.size)
                first
                | (exfalso; omega)
                | exact pn_is (Ends.err k127 (by rw [← hw, hst, show x = 41 from u8_eq (by assumption), if_neg (by decide), if_pos rfl, if_pos (by omega)]; exact textS_err hrw125) hBew125)
              · skip
                have ho128 := Own.below ho10 hw125
                have hk129 := hk11.below hw125 hk11.lt
                have hk130 := hk12.below hw125 hk12.lt
                have hv131 := BytesAt.below hv13 hw125 (fun h0 => hv13.lt h0)
                have hB132 := Touch.trans hB14 (Touch.mono (Touch.of_below hw125) hB14.size)
                obtain ⟨a0, ha0⟩ : ∃ a0, a0 = a126 := ⟨_, rfl⟩
                have hra := hrw125
                refine WL.stL rfl rfl hk130 isz27 rfl rfl (fun w133 hkw133 huw133 hsw133 => ?_)
                have ho134 := Own.touch ho128 huw133 (by omega)
                have hk135 := hk129.upd huw133 (by ((try simp only) <;> omega))
                have hv136 := BytesAt.upd hv131 huw133 (fun h0 => Nat.ne_of_lt (hvl5 h0))
                have hB137 := Touch.trans hB132 (Touch.of_new huw133 (by omega))
                refine WL.nil <| ?_
                refine W.ret (W.retc1 rfl rfl (ldRow hkw133 Tryd.underlying27 rfl isz27)  ?_)
                first
                | (exfalso; omega)
                | exact Ends.ok (_, l.drop (s + 1)) (by rw [← hw, hst, show x = 41 from u8_eq (by assumption), if_neg (by decide), if_pos rfl, if_pos (by omega)]; exact textS_ok hra) rfl ⟨_, rfl, by omega, ⟨hk135, hv136⟩, hB137⟩
            · have h124' := of_decide_eq_false h124
              refine W.skip ?_
              refine W.reg ?_ -- 16
              refine WL.p (.mv rfl) rfl <| WL.p (.mv rfl) rfl <| WL.bsl (ps := _) Tryd.underlying32 Tryd.sizeOf5 Tryd.zeroValue5 rfl rfl rfl rfl rfl (by simp only [put1, List.map, List.zip, List.zipWith, List.set, List.replicate] <;> rfl) rfl (fun b138 wb138 eb138 hkb138 hub138 hsb138 => ?_)
              have ho139 := Own.new ho10 eb138 hub138
              have hl141 : r < b138 := by rw [eb138]; exact hk11.lt
              have hk140 := hk11.upd hub138 (Nat.ne_of_lt hl141)
              have hl143 : b1 < b138 := by rw [eb138]; exact hk12.lt
              have hk142 := hk12.upd hub138 (Nat.ne_of_lt hl143)
              have hvl145 := fun h0 => eb138 ▸ hv13.lt h0
              have hv144 := BytesAt.upd hv13 hub138 (fun h0 => Nat.ne_of_lt (hvl145 h0))
              have hgeb138 : w.heap.size ≤ b138 := by rw [eb138]; exact hB14.size
              have hB146 := Touch.trans hB14 (Touch.of_new hub138 hgeb138)
              refine WL.appm Tryd.underlying32 inf5 rfl rfl rfl ho139 rfl hkb138 rfl (by rw [byteVals_len]; omega) (hk142.lt) rfl (fun v147 w148 how148 hbw148 hgw148 => ?_)
              have hk149 := hk140.below hbw148 (by omega)
              have hk150 := hk142.below hbw148 (by omega)
              have hv151 := BytesAt.below hv144 hbw148 hpB
              have hB152 := Touch.trans hB146 (Touch.of_below (hbw148.mono (by omega)))
              have ho153 := Own.snoc how148 (x) (rfl)
              refine WL.p (.as rfl) rfl <| WL.nil <| ?_
              first
              | exact ⟨(v2, o ++ (escS y (l.drop (s + 1 + 1))).1, d, k2), ⟨rfl, rfl, rfl, rfl, trivial⟩, ⟨⟨hk149, hv151⟩, hB152, hk150, ho153, (by rw [hk2c, ← hw, hst, show x = 92 from u8_eq (by assumption), if_neg (by decide), if_neg (by decide), if_pos rfl, List.drop_eq_getElem_cons hlt2, ← hx2]), hd1, by ((try simp only) <;> omega), (by simp only [List.length_append, List.length_cons, List.length_nil]; omega), by ((try simp only) <;> omega)⟩, by ((try simp only) <;> omega)⟩
              | exact ⟨(_, o ++ [_], d + 1, s + 1), ⟨rfl, rfl, rfl, rfl, trivial⟩, ⟨⟨hk149, hv151⟩, hB152, hk150, ho153, (by rw [← hw, hst, show x = 40 from u8_eq (by assumption), if_pos rfl]), by ((try simp only) <;> omega), by ((try simp only) <;> omega), (by simp only [List.length_append, List.length_cons, List.length_nil]; omega), by ((try simp only) <;> omega)⟩, by ((try simp only) <;> omega)⟩
              | exact ⟨(_, o ++ [_], d - 1, s + 1), ⟨rfl, rfl, rfl, rfl, trivial⟩, ⟨⟨hk149, hv151⟩, hB152, hk150, ho153, (by rw [← hw, hst, show x = 41 from u8_eq (by assumption), if_neg (by decide), if_pos rfl, if_neg (by omega)]), by ((try simp only) <;> omega), by ((try simp only) <;> omega), (by simp only [List.length_append, List.length_cons, List.length_nil]; omega), by ((try simp only) <;> omega)⟩, by ((try simp only) <;> omega)⟩
              | exact ⟨(_, o ++ [_], d, (if nextB l (s + 1) 10 then s + 1 + 1 else s + 1)), ⟨rfl, rfl, rfl, rfl, trivial⟩, ⟨⟨hk149, hv151⟩, hB152, hk150, ho153, (by show roundS d (o ++ [10]) (l.drop (if nextB l (s + 1) 10 then s + 1 + 1 else s + 1)) = R; rw [hnl.2.2, ← hw, hst, show x = 13 from u8_eq (by assumption), if_neg (by decide), if_neg (by decide), if_neg (by decide), if_pos rfl]), by ((try simp only) <;> omega), by ((try simp only) <;> omega), (by simp only [List.length_append, List.length_cons, List.length_nil]; omega), by ((try simp only) <;> omega)⟩, by ((try simp only) <;> omega)⟩
              | exact ⟨(_, o ++ [_], d, s + 1), ⟨rfl, rfl, rfl, rfl, trivial⟩, ⟨⟨hk149, hv151⟩, hB152, hk150, ho153, (by rw [← hw, hst, if_neg (u8_ne (d := 40) (by assumption)), if_neg (u8_ne (d := 41) (by assumption)), if_neg (u8_ne (d := 92) (by assumption)), if_neg (u8_ne (d := 13) (by assumption))]), by ((try simp only) <;> omega), by ((try simp only) <;> omega), (by simp only [List.length_append, List.length_cons, List.length_nil]; omega), by ((try simp only) <;> omega)⟩, by ((try simp only) <;> omega)⟩

end Go.Proofs.YteaohajihhpnmaaDoor
