/-
  Scan: the program's reader, fifth part: a token.
-/
import Derived.Test.YteaohajihhpnmaaDoorScanE
namespace Go.Proofs.YteaohajihhpnmaaDoor
open Go.RowKit

theorem scan_token (r : Nat) (p : Option Addr) (l : List UInt8) (c n : Nat) (w : World) (h : RdOk w r p l c n) (hne : 0 < l.length → (pA p).block ≠ r) (hc : l.length ≤ c) (hl : l.length ≤ 1000000) (ht : n ≤ l.length) :
    Calls Tryd.prog 49 #[.pointer (some ⟨r, 0, none⟩)] w (Ends 28 (tokS (l.drop n)) (fun a => a.1.val) (Read w r p l c) (fun w' => Touch w.heap.size r w w')) := by
  have hr := h.1
  have hb := h.2
  refine W.enter Tryd.func49 rfl Tryd.ntmps49 (Nat.le_of_ble_eq_true rfl) ?_
  have hB0 := Touch.refl (w.heap.size) r w
  refine W.seq ?_
  refine W.reg ?_ -- 0
  refine WL.alloc Tryd.zeroValue27 rfl (fun b1 wb1 eb1 hkb1 hub1 hsb1 => ?_)
  have hl3 : r < b1 := by rw [eb1]; exact hr.lt
  have hk2 := hr.upd hub1 (Nat.ne_of_lt hl3)
  have hvl5 := fun h0 => eb1 ▸ hb.lt h0
  have hv4 := BytesAt.upd hb hub1 (fun h0 => Nat.ne_of_lt (hvl5 h0))
  have hgeb1 : w.heap.size ≤ b1 := by rw [eb1]; exact hB0.size
  have hB6 := Touch.trans hB0 (Touch.of_new hub1 hgeb1)
  refine WL.nil <| ?_
  refine W.seq ?_
  have hrB : r < b1 := by have := hr.lt; omega
  refine W.reg ?_ -- 1
  refine WL.p (.mv rfl) rfl <| WL.c1 hb75 rfl rfl ((scan_skip r p l c n _ ⟨hk2, hv4⟩ hne hl ht)) (fun w7 hw7 => ?_)
  have hk8 := hw7.1.1
  have hk9 := Blk.touch hkb1 hw7.2 hkb1.lt (by omega)
  have hv10 := hw7.1.2
  have hB11 := Touch.trans hB6 (Touch.mono hw7.2 hB6.size)
  have hsd := skipAt_drop false l n
  have hsl := skipAt_le false l n
  generalize skipAt false l n = s at *
  refine WL.nil <| ?_
  refine W.seq ?_
  refine W.seq ?_
  refine W.reg ?_ -- 2
  refine WL.p (.mv rfl) rfl <| WL.c1 hb76 rfl rfl ((scan_more r p l c s _ ⟨hk8, hv10⟩)) (fun w12 hw12 => ?_)
  have hk13 := hk8.drew hw12
  have hk14 := hk9.drew hw12
  have hv15 := hv10.drew hw12
  have hB16 := Touch.trans hB11 (Touch.of_drew hw12)
  refine WL.p (.not rfl) rfl <| WL.nil <| ?_
  refine W.cond rfl (fun h17 => ?_) (fun h17 => ?_) -- slot 12
  · have h17' := (nT h17)
    refine W.seq ?_
    refine W.reg ?_ -- 3
    refine WL.p (.buildL (ps := _) blt27 rfl rfl rfl (by simp only [put1, List.map, List.zip, List.zipWith] <;> rfl)) rfl ?_
    refine WL.stL rfl rfl hk14 isz27 rfl rfl (fun w18 hkw18 huw18 hsw18 => ?_)
    have hk19 := hk13.upd huw18 (by ((try simp only) <;> omega))
    have hv20 := BytesAt.upd hv15 huw18 (fun h0 => Nat.ne_of_lt (hvl5 h0))
    have hB21 := Touch.trans hB16 (Touch.of_new huw18 (by omega))
    refine WL.nil <| ?_
    refine W.ret (W.retc1 rfl rfl (ldRow hkw18 Tryd.underlying27 rfl isz27)  ?_)
    first
    | (exfalso; omega)
    | exact Ends.ok (⟨0, 0, []⟩, []) (tokS_end hsd (by simp_all)) rfl ⟨s, by rw [List.drop_eq_nil_of_le (by simp_all)], by omega, ⟨hk19, hv20⟩, hB21⟩
    | exact Ends.ok _ (by rw [hT, show x = 40 from u8_eq (by assumption), tokC40]; exact hra) rfl ⟨_, hkr, hkl, ⟨hk19, hv20⟩, hB21⟩
    | exact Ends.ok _ (by rw [hT, show x = 60 from u8_eq (by assumption), tokC60, ← show x = 60 from u8_eq (by assumption)]; exact hra) rfl ⟨_, hkr, hkl, ⟨hk19, hv20⟩, hB21⟩
    | exact Ends.ok _ (by rw [hT, show x = 62 from u8_eq (by assumption), tokC62, ← show x = 62 from u8_eq (by assumption)]; exact hra) rfl ⟨_, hkr, hkl, ⟨hk19, hv20⟩, hB21⟩
    | exact Ends.ok (⟨7, 0, []⟩, l.drop (s + 1)) (by rw [hT, show x = 123 from u8_eq (by assumption), tokC123]) rfl ⟨_, rfl, by omega, ⟨hk19, hv20⟩, hB21⟩
    | exact Ends.ok (⟨8, 0, []⟩, l.drop (s + 1)) (by rw [hT, show x = 125 from u8_eq (by assumption), tokC125]) rfl ⟨_, rfl, by omega, ⟨hk19, hv20⟩, hB21⟩
    | exact Ends.ok (⟨3, 0, [x]⟩, l.drop (s + 1)) (by rw [hT, show x = 91 from u8_eq (by assumption), tokC91]) rfl ⟨_, rfl, by omega, ⟨hk19, hv20⟩, hB21⟩
    | exact Ends.ok (⟨3, 0, [x]⟩, l.drop (s + 1)) (by rw [hT, show x = 93 from u8_eq (by assumption), tokC93]) rfl ⟨_, rfl, by omega, ⟨hk19, hv20⟩, hB21⟩
    | exact Ends.ok _ (by rw [hT, show x = 47 from u8_eq (by assumption), tokC47]; exact hra) rfl ⟨_, hkr, hkl, ⟨hk19, hv20⟩, hB21⟩
    | exact Ends.ok (⟨T.kind, T.n, []⟩, l.drop (wordAt l s)) (by rw [hX, if_neg (fun h => h (by assumption)), if_pos (by assumption)]) rfl ⟨_, rfl, hwl.2, ⟨hk19, hv20⟩, hB21⟩
    | exact Ends.ok (_, l.drop (wordAt l s)) (by rw [hX, if_neg (fun h => h (by assumption)), if_neg (bF (by assumption)), nameS_ok hra, word_drop]) rfl ⟨_, rfl, hwl.2, ⟨hk19, hv20⟩, hB21⟩
  · have h17' := (nF h17)
    have hlt : s < l.length := by simp_all
    have hT := tokS_at hsd hlt
    obtain ⟨x, hx⟩ : ∃ x, x = l[s]'hlt := ⟨_, rfl⟩
    rw [← hx] at hT
    have hwl := wordAt_le l s (by omega)
    refine W.skip ?_
    refine W.seq ?_
    refine W.seq ?_
    refine W.regQ mixed (by kernel_rfl) ?_ -- 4
    refine WQ.p (.mv rfl) rfl <| WQ.p (.nck rfl) rfl <| WQ.p (.fa Tryd.underlying71 rfl Tryd.sizeOf32 (by decide) rfl) rfl <| WQ.r (fun m => Rd.ld (Tryd.isAgg32 _) rfl hk13 rfl) rfl <| WQ.p (.mv rfl) rfl <| WQ.p (.nck rfl) rfl <| WQ.p (.fa Tryd.underlying71 rfl Tryd.sizeOf3 (by decide) rfl) rfl <| WQ.r (fun m => Rd.ld (Tryd.isAgg3 _) rfl hk13 rfl) rfl <| WQ.p (.ixb Tryd.underlying32 Tryd.sizeOf5 rfl rfl (hv15.isp (by omega)) (s) (by omega) (by omega)) rfl <| WQ.r (fun m => Rd.iis ((x.toNat : Int)) (Rd.ldc (Tryd.isAgg5 _) rfl ((hv15.drewN m).cells _ (by omega))) (by rw [hx])) rfl <| WQ.p (.as rfl) rfl <| WQ.nil (fun w22 dw22 => ?_)
    have hk23 := hk13.drew dw22
    have hk24 := hk14.drew dw22
    have hv25 := hv15.drew dw22
    have hB26 := Touch.trans hB16 (Touch.of_drew dw22)
    refine W.seq ?_
    refine W.reg ?_ -- 5
    refine WL.p (.mv rfl) rfl <| WL.nil <| ?_
    refine W.block ?_
    refine W.seq ?_
    refine W.reg ?_ -- 6
    refine WL.p (.eql rfl rfl) rfl <| WL.p (.as rfl) rfl <| WL.nil <| ?_
    refine W.cond rfl (fun h27 => ?_) (fun h27 => ?_) -- slot 25
    · have h27' := of_decide_eq_true h27
      refine W.seq ?_
      refine W.reg ?_ -- 7
      refine WL.p (.mv rfl) rfl <| WL.p (.nck rfl) rfl <| WL.p (.fa Tryd.underlying71 rfl Tryd.sizeOf3 (by decide) rfl) rfl <| WL.r (Rd.ld (Tryd.isAgg3 _) rfl hk23 rfl) rfl <| WL.p (.iis (((s + 1 : Nat) : Int)) (.add rfl rfl (i64w (by omega))) (by omega)) rfl <| WL.p (.nck rfl) rfl <| WL.p (.fa Tryd.underlying71 rfl Tryd.sizeOf3 (by decide) rfl) rfl <| WL.st Tryd.sizeOf3 rfl rfl rfl hk23 (by first | decide | exact Nat.le_of_ble_eq_true rfl) (fun w28 hkw28 huw28 hsw28 => ?_)
      have hk29 := hk24.upd huw28 (by ((try simp only) <;> omega))
      have hv30 := BytesAt.upd hv25 huw28 hne
      have hB31 := Touch.trans hB26 (Touch.of_upd huw28)
      refine WL.nil <| ?_
      refine W.seq ?_
      refine W.reg ?_ -- 8
      refine WL.p (.mv rfl) rfl <| WL.ce hb77 rfl rfl ((scan_round r p l c (s + 1) _ ⟨hkw28, hv30⟩ hne hc hl (by omega))) (fun k34 w32 hrw32 hw32 => ?_) (fun a33 w32 hrw32 hw32 => ?_)
      · skip
        have hBew32 := Touch.trans hB31 (Touch.mono hw32 hB31.size)
        exact pn_is (Ends.err k34 (by rw [hT, show x = 40 from u8_eq (by assumption), tokC40]; exact hrw32) hBew32)
      · skip
        obtain ⟨kr, hkr, hkl, hw32⟩ := hw32
        have hk35 := hw32.1.1
        have hk36 := Blk.touch hk29 hw32.2 hk29.lt (by omega)
        have hv37 := hw32.1.2
        have hB38 := Touch.trans hB31 (Touch.mono hw32.2 hB31.size)
        have hra := hrw32
        obtain ⟨a0, ha0⟩ : ∃ a0, a0 = a33 := ⟨_, rfl⟩
        refine WL.stL rfl rfl hk36 isz27 rfl rfl (fun w39 hkw39 huw39 hsw39 => ?_)
        have hk40 := hk35.upd huw39 (by ((try simp only) <;> omega))
        have hv41 := BytesAt.upd hv37 huw39 (fun h0 => Nat.ne_of_lt (hvl5 h0))
        have hB42 := Touch.trans hB38 (Touch.of_new huw39 (by omega))
        refine WL.nil <| ?_
        refine W.ret (W.retc1 rfl rfl (ldRow hkw39 Tryd.underlying27 rfl isz27)  ?_)
        first
        | (exfalso; omega)
        | exact Ends.ok (⟨0, 0, []⟩, []) (tokS_end hsd (by simp_all)) rfl ⟨s, by rw [List.drop_eq_nil_of_le (by simp_all)], by omega, ⟨hk40, hv41⟩, hB42⟩
        | exact Ends.ok _ (by rw [hT, show x = 40 from u8_eq (by assumption), tokC40]; exact hra) rfl ⟨_, hkr, hkl, ⟨hk40, hv41⟩, hB42⟩
        | exact Ends.ok _ (by rw [hT, show x = 60 from u8_eq (by assumption), tokC60, ← show x = 60 from u8_eq (by assumption)]; exact hra) rfl ⟨_, hkr, hkl, ⟨hk40, hv41⟩, hB42⟩
        | exact Ends.ok _ (by rw [hT, show x = 62 from u8_eq (by assumption), tokC62, ← show x = 62 from u8_eq (by assumption)]; exact hra) rfl ⟨_, hkr, hkl, ⟨hk40, hv41⟩, hB42⟩
        | exact Ends.ok (⟨7, 0, []⟩, l.drop (s + 1)) (by rw [hT, show x = 123 from u8_eq (by assumption), tokC123]) rfl ⟨_, rfl, by omega, ⟨hk40, hv41⟩, hB42⟩
        | exact Ends.ok (⟨8, 0, []⟩, l.drop (s + 1)) (by rw [hT, show x = 125 from u8_eq (by assumption), tokC125]) rfl ⟨_, rfl, by omega, ⟨hk40, hv41⟩, hB42⟩
        | exact Ends.ok (⟨3, 0, [x]⟩, l.drop (s + 1)) (by rw [hT, show x = 91 from u8_eq (by assumption), tokC91]) rfl ⟨_, rfl, by omega, ⟨hk40, hv41⟩, hB42⟩
        | exact Ends.ok (⟨3, 0, [x]⟩, l.drop (s + 1)) (by rw [hT, show x = 93 from u8_eq (by assumption), tokC93]) rfl ⟨_, rfl, by omega, ⟨hk40, hv41⟩, hB42⟩
        | exact Ends.ok _ (by rw [hT, show x = 47 from u8_eq (by assumption), tokC47]; exact hra) rfl ⟨_, hkr, hkl, ⟨hk40, hv41⟩, hB42⟩
        | exact Ends.ok (⟨T.kind, T.n, []⟩, l.drop (wordAt l s)) (by rw [hX, if_neg (fun h => h (by assumption)), if_pos (by assumption)]) rfl ⟨_, rfl, hwl.2, ⟨hk40, hv41⟩, hB42⟩
        | exact Ends.ok (_, l.drop (wordAt l s)) (by rw [hX, if_neg (fun h => h (by assumption)), if_neg (bF (by assumption)), nameS_ok hra, word_drop]) rfl ⟨_, rfl, hwl.2, ⟨hk40, hv41⟩, hB42⟩
    · have h27' := of_decide_eq_false h27
      refine W.seq ?_
      refine W.reg ?_ -- 9
      refine WL.p (.eql rfl rfl) rfl <| WL.p (.as rfl) rfl <| WL.nil <| ?_
      refine W.cond rfl (fun h43 => ?_) (fun h43 => ?_) -- slot 36
      · have h43' := of_decide_eq_true h43
        refine W.reg ?_ -- 10
        refine WL.p (.mkI Tryd.underlying28 rfl) rfl <| WL.panic rfl (pn_is ?_)
        exact Ends.err 14 (by rw [hT, show x = 41 from u8_eq (by assumption), tokC41]) hB26
      · have h43' := of_decide_eq_false h43
        refine W.seq ?_
        refine W.seq ?_
        refine W.reg ?_ -- 11
        refine WL.p (.eql rfl rfl) rfl <| WL.p (.as rfl) rfl <| WL.nil <| ?_
        refine W.cond rfl (fun h44 => ?_) (fun h44 => ?_) -- slot 39
        · have h44' := of_decide_eq_true h44
          refine W.skip ?_
          refine W.condT rfl h44 ?_
          refine W.seq ?_
          refine W.reg ?_ -- 13
          refine WL.p (.mv rfl) rfl <| WL.p (.nck rfl) rfl <| WL.p (.fa Tryd.underlying71 rfl Tryd.sizeOf3 (by decide) rfl) rfl <| WL.r (Rd.ld (Tryd.isAgg3 _) rfl hk23 rfl) rfl <| WL.p (.iis (((s + 1 : Nat) : Int)) (.add rfl rfl (i64w (by omega))) (by omega)) rfl <| WL.p (.nck rfl) rfl <| WL.p (.fa Tryd.underlying71 rfl Tryd.sizeOf3 (by decide) rfl) rfl <| WL.st Tryd.sizeOf3 rfl rfl rfl hk23 (by first | decide | exact Nat.le_of_ble_eq_true rfl) (fun w45 hkw45 huw45 hsw45 => ?_)
          have hk46 := hk24.upd huw45 (by ((try simp only) <;> omega))
          have hv47 := BytesAt.upd hv25 huw45 hne
          have hB48 := Touch.trans hB26 (Touch.of_upd huw45)
          refine WL.nil <| ?_
          refine W.seq ?_
          refine W.reg ?_ -- 14
          refine WL.p (.mv rfl) rfl <| WL.p (.mv rfl) rfl <| WL.ce hb78 rfl rfl ((scan_angle r p l c (s + 1) x _ ⟨hkw45, hv47⟩ hne hc hl (by omega) (by rintro rfl; first | exact absurd (show (0 : Int) = 60 by assumption) (by decide) | exact absurd (show (0 : Int) = 62 by assumption) (by decide)))) (fun k51 w49 hrw49 hw49 => ?_) (fun a50 w49 hrw49 hw49 => ?_)
          · skip
            have hBew49 := Touch.trans hB48 (Touch.mono hw49 hB48.size)
            first
            | exact pn_is (Ends.err k51 (by rw [hT, show x = 60 from u8_eq (by assumption), tokC60, ← show x = 60 from u8_eq (by assumption)]; exact hrw49) hBew49)
            | exact pn_is (Ends.err k51 (by rw [hT, show x = 62 from u8_eq (by assumption), tokC62, ← show x = 62 from u8_eq (by assumption)]; exact hrw49) hBew49)
          · skip
            obtain ⟨kr, hkr, hkl, hw49⟩ := hw49
            have hk52 := hw49.1.1
            have hk53 := Blk.touch hk46 hw49.2 hk46.lt (by omega)
            have hv54 := hw49.1.2
            have hB55 := Touch.trans hB48 (Touch.mono hw49.2 hB48.size)
            have hra := hrw49
            obtain ⟨a0, ha0⟩ : ∃ a0, a0 = a50 := ⟨_, rfl⟩
            refine WL.stL rfl rfl hk53 isz27 rfl rfl (fun w56 hkw56 huw56 hsw56 => ?_)
            have hk57 := hk52.upd huw56 (by ((try simp only) <;> omega))
            have hv58 := BytesAt.upd hv54 huw56 (fun h0 => Nat.ne_of_lt (hvl5 h0))
            have hB59 := Touch.trans hB55 (Touch.of_new huw56 (by omega))
            refine WL.nil <| ?_
            refine W.ret (W.retc1 rfl rfl (ldRow hkw56 Tryd.underlying27 rfl isz27)  ?_)
            first
            | (exfalso; omega)
            | exact Ends.ok (⟨0, 0, []⟩, []) (tokS_end hsd (by simp_all)) rfl ⟨s, by rw [List.drop_eq_nil_of_le (by simp_all)], by omega, ⟨hk57, hv58⟩, hB59⟩
            | exact Ends.ok _ (by rw [hT, show x = 40 from u8_eq (by assumption), tokC40]; exact hra) rfl ⟨_, hkr, hkl, ⟨hk57, hv58⟩, hB59⟩
            | exact Ends.ok _ (by rw [hT, show x = 60 from u8_eq (by assumption), tokC60, ← show x = 60 from u8_eq (by assumption)]; exact hra) rfl ⟨_, hkr, hkl, ⟨hk57, hv58⟩, hB59⟩
            | exact Ends.ok _ (by rw [hT, show x = 62 from u8_eq (by assumption), tokC62, ← show x = 62 from u8_eq (by assumption)]; exact hra) rfl ⟨_, hkr, hkl, ⟨hk57, hv58⟩, hB59⟩
            | exact Ends.ok (⟨7, 0, []⟩, l.drop (s + 1)) (by rw [hT, show x = 123 from u8_eq (by assumption), tokC123]) rfl ⟨_, rfl, by omega, ⟨hk57, hv58⟩, hB59⟩
            | exact Ends.ok (⟨8, 0, []⟩, l.drop (s + 1)) (by rw [hT, show x = 125 from u8_eq (by assumption), tokC125]) rfl ⟨_, rfl, by omega, ⟨hk57, hv58⟩, hB59⟩
            | exact Ends.ok (⟨3, 0, [x]⟩, l.drop (s + 1)) (by rw [hT, show x = 91 from u8_eq (by assumption), tokC91]) rfl ⟨_, rfl, by omega, ⟨hk57, hv58⟩, hB59⟩
            | exact Ends.ok (⟨3, 0, [x]⟩, l.drop (s + 1)) (by rw [hT, show x = 93 from u8_eq (by assumption), tokC93]) rfl ⟨_, rfl, by omega, ⟨hk57, hv58⟩, hB59⟩
            | exact Ends.ok _ (by rw [hT, show x = 47 from u8_eq (by assumption), tokC47]; exact hra) rfl ⟨_, hkr, hkl, ⟨hk57, hv58⟩, hB59⟩
            | exact Ends.ok (⟨T.kind, T.n, []⟩, l.drop (wordAt l s)) (by rw [hX, if_neg (fun h => h (by assumption)), if_pos (by assumption)]) rfl ⟨_, rfl, hwl.2, ⟨hk57, hv58⟩, hB59⟩
            | exact Ends.ok (_, l.drop (wordAt l s)) (by rw [hX, if_neg (fun h => h (by assumption)), if_neg (bF (by assumption)), nameS_ok hra, word_drop]) rfl ⟨_, rfl, hwl.2, ⟨hk57, hv58⟩, hB59⟩
        · have h44' := of_decide_eq_false h44
          refine W.reg ?_ -- 12
          refine WL.p (.eql rfl rfl) rfl <| WL.p (.as rfl) rfl <| WL.nil <| ?_
          refine W.cond rfl (fun h60 => ?_) (fun h60 => ?_) -- slot 39
          · have h60' := of_decide_eq_true h60
            refine W.seq ?_
            refine W.reg ?_ -- 13
            refine WL.p (.mv rfl) rfl <| WL.p (.nck rfl) rfl <| WL.p (.fa Tryd.underlying71 rfl Tryd.sizeOf3 (by decide) rfl) rfl <| WL.r (Rd.ld (Tryd.isAgg3 _) rfl hk23 rfl) rfl <| WL.p (.iis (((s + 1 : Nat) : Int)) (.add rfl rfl (i64w (by omega))) (by omega)) rfl <| WL.p (.nck rfl) rfl <| WL.p (.fa Tryd.underlying71 rfl Tryd.sizeOf3 (by decide) rfl) rfl <| WL.st Tryd.sizeOf3 rfl rfl rfl hk23 (by first | decide | exact Nat.le_of_ble_eq_true rfl) (fun w61 hkw61 huw61 hsw61 => ?_)
            have hk62 := hk24.upd huw61 (by ((try simp only) <;> omega))
            have hv63 := BytesAt.upd hv25 huw61 hne
            have hB64 := Touch.trans hB26 (Touch.of_upd huw61)
            refine WL.nil <| ?_
            refine W.seq ?_
            refine W.reg ?_ -- 14
            refine WL.p (.mv rfl) rfl <| WL.p (.mv rfl) rfl <| WL.ce hb78 rfl rfl ((scan_angle r p l c (s + 1) x _ ⟨hkw61, hv63⟩ hne hc hl (by omega) (by rintro rfl; first | exact absurd (show (0 : Int) = 60 by assumption) (by decide) | exact absurd (show (0 : Int) = 62 by assumption) (by decide)))) (fun k67 w65 hrw65 hw65 => ?_) (fun a66 w65 hrw65 hw65 => ?_)
            · skip
              have hBew65 := Touch.trans hB64 (Touch.mono hw65 hB64.size)
              first
              | exact pn_is (Ends.err k67 (by rw [hT, show x = 60 from u8_eq (by assumption), tokC60, ← show x = 60 from u8_eq (by assumption)]; exact hrw65) hBew65)
              | exact pn_is (Ends.err k67 (by rw [hT, show x = 62 from u8_eq (by assumption), tokC62, ← show x = 62 from u8_eq (by assumption)]; exact hrw65) hBew65)
            · skip
              obtain ⟨kr, hkr, hkl, hw65⟩ := hw65
              have hk68 := hw65.1.1
              have hk69 := Blk.touch hk62 hw65.2 hk62.lt (by omega)
              have hv70 := hw65.1.2
              have hB71 := Touch.trans hB64 (Touch.mono hw65.2 hB64.size)
              have hra := hrw65
              obtain ⟨a0, ha0⟩ : ∃ a0, a0 = a66 := ⟨_, rfl⟩
              refine WL.stL rfl rfl hk69 isz27 rfl rfl (fun w72 hkw72 huw72 hsw72 => ?_)
              have hk73 := hk68.upd huw72 (by ((try simp only) <;> omega))
              have hv74 := BytesAt.upd hv70 huw72 (fun h0 => Nat.ne_of_lt (hvl5 h0))
              have hB75 := Touch.trans hB71 (Touch.of_new huw72 (by omega))
              refine WL.nil <| ?_
              refine W.ret (W.retc1 rfl rfl (ldRow hkw72 Tryd.underlying27 rfl isz27)  ?_)
              first
              | (exfalso; omega)
              | exact Ends.ok (⟨0, 0, []⟩, []) (tokS_end hsd (by simp_all)) rfl ⟨s, by rw [List.drop_eq_nil_of_le (by simp_all)], by omega, ⟨hk73, hv74⟩, hB75⟩
              | exact Ends.ok _ (by rw [hT, show x = 40 from u8_eq (by assumption), tokC40]; exact hra) rfl ⟨_, hkr, hkl, ⟨hk73, hv74⟩, hB75⟩
              | exact Ends.ok _ (by rw [hT, show x = 60 from u8_eq (by assumption), tokC60, ← show x = 60 from u8_eq (by assumption)]; exact hra) rfl ⟨_, hkr, hkl, ⟨hk73, hv74⟩, hB75⟩
              | exact Ends.ok _ (by rw [hT, show x = 62 from u8_eq (by assumption), tokC62, ← show x = 62 from u8_eq (by assumption)]; exact hra) rfl ⟨_, hkr, hkl, ⟨hk73, hv74⟩, hB75⟩
              | exact Ends.ok (⟨7, 0, []⟩, l.drop (s + 1)) (by rw [hT, show x = 123 from u8_eq (by assumption), tokC123]) rfl ⟨_, rfl, by omega, ⟨hk73, hv74⟩, hB75⟩
              | exact Ends.ok (⟨8, 0, []⟩, l.drop (s + 1)) (by rw [hT, show x = 125 from u8_eq (by assumption), tokC125]) rfl ⟨_, rfl, by omega, ⟨hk73, hv74⟩, hB75⟩
              | exact Ends.ok (⟨3, 0, [x]⟩, l.drop (s + 1)) (by rw [hT, show x = 91 from u8_eq (by assumption), tokC91]) rfl ⟨_, rfl, by omega, ⟨hk73, hv74⟩, hB75⟩
              | exact Ends.ok (⟨3, 0, [x]⟩, l.drop (s + 1)) (by rw [hT, show x = 93 from u8_eq (by assumption), tokC93]) rfl ⟨_, rfl, by omega, ⟨hk73, hv74⟩, hB75⟩
              | exact Ends.ok _ (by rw [hT, show x = 47 from u8_eq (by assumption), tokC47]; exact hra) rfl ⟨_, hkr, hkl, ⟨hk73, hv74⟩, hB75⟩
              | exact Ends.ok (⟨T.kind, T.n, []⟩, l.drop (wordAt l s)) (by rw [hX, if_neg (fun h => h (by assumption)), if_pos (by assumption)]) rfl ⟨_, rfl, hwl.2, ⟨hk73, hv74⟩, hB75⟩
              | exact Ends.ok (_, l.drop (wordAt l s)) (by rw [hX, if_neg (fun h => h (by assumption)), if_neg (bF (by assumption)), nameS_ok hra, word_drop]) rfl ⟨_, rfl, hwl.2, ⟨hk73, hv74⟩, hB75⟩
          · have h60' := of_decide_eq_false h60
            refine W.seq ?_
            refine W.seq ?_
            refine W.reg ?_ -- 15
            refine WL.p (.eql rfl rfl) rfl <| WL.p (.as rfl) rfl <| WL.nil <| ?_
            refine W.cond rfl (fun h76 => ?_) (fun h76 => ?_) -- slot 52
            · have h76' := of_decide_eq_true h76
              refine W.skip ?_
              refine W.condT rfl h76 ?_
              refine W.seq ?_
              refine W.reg ?_ -- 17
              refine WL.p (.mv rfl) rfl <| WL.p (.nck rfl) rfl <| WL.p (.fa Tryd.underlying71 rfl Tryd.sizeOf3 (by decide) rfl) rfl <| WL.r (Rd.ld (Tryd.isAgg3 _) rfl hk23 rfl) rfl <| WL.p (.iis (((s + 1 : Nat) : Int)) (.add rfl rfl (i64w (by omega))) (by omega)) rfl <| WL.p (.nck rfl) rfl <| WL.p (.fa Tryd.underlying71 rfl Tryd.sizeOf3 (by decide) rfl) rfl <| WL.st Tryd.sizeOf3 rfl rfl rfl hk23 (by first | decide | exact Nat.le_of_ble_eq_true rfl) (fun w77 hkw77 huw77 hsw77 => ?_)
              have hk78 := hk24.upd huw77 (by ((try simp only) <;> omega))
              have hv79 := BytesAt.upd hv25 huw77 hne
              have hB80 := Touch.trans hB26 (Touch.of_upd huw77)
              refine WL.nil <| ?_
              refine W.seq ?_
              refine W.seq ?_
              refine W.reg ?_ -- 18
              refine WL.p (.mv rfl) rfl <| WL.p (.eql rfl rfl) rfl <| WL.nil <| ?_
              refine W.cond rfl (fun h81 => ?_) (fun h81 => ?_) -- slot 63
              · have h81' := of_decide_eq_true h81
                refine W.seq ?_
                refine W.reg ?_ -- 19
                refine WL.p (.buildL (ps := _) blt27 rfl rfl rfl (by simp only [put1, List.map, List.zip, List.zipWith, List.set] <;> rfl)) rfl ?_
                refine WL.stL rfl rfl hk78 isz27 rfl rfl (fun w82 hkw82 huw82 hsw82 => ?_)
                have hk83 := hkw77.upd huw82 (by ((try simp only) <;> omega))
                have hv84 := BytesAt.upd hv79 huw82 (fun h0 => Nat.ne_of_lt (hvl5 h0))
                have hB85 := Touch.trans hB80 (Touch.of_new huw82 (by omega))
                refine WL.nil <| ?_
                refine W.ret (W.retc1 rfl rfl (ldRow hkw82 Tryd.underlying27 rfl isz27)  ?_)
                first
                | (exfalso; omega)
                | exact Ends.ok (⟨0, 0, []⟩, []) (tokS_end hsd (by simp_all)) rfl ⟨s, by rw [List.drop_eq_nil_of_le (by simp_all)], by omega, ⟨hk83, hv84⟩, hB85⟩
                | exact Ends.ok _ (by rw [hT, show x = 40 from u8_eq (by assumption), tokC40]; exact hra) rfl ⟨_, hkr, hkl, ⟨hk83, hv84⟩, hB85⟩
                | exact Ends.ok _ (by rw [hT, show x = 60 from u8_eq (by assumption), tokC60, ← show x = 60 from u8_eq (by assumption)]; exact hra) rfl ⟨_, hkr, hkl, ⟨hk83, hv84⟩, hB85⟩
                | exact Ends.ok _ (by rw [hT, show x = 62 from u8_eq (by assumption), tokC62, ← show x = 62 from u8_eq (by assumption)]; exact hra) rfl ⟨_, hkr, hkl, ⟨hk83, hv84⟩, hB85⟩
                | exact Ends.ok (⟨7, 0, []⟩, l.drop (s + 1)) (by rw [hT, show x = 123 from u8_eq (by assumption), tokC123]) rfl ⟨_, rfl, by omega, ⟨hk83, hv84⟩, hB85⟩
                | exact Ends.ok (⟨8, 0, []⟩, l.drop (s + 1)) (by rw [hT, show x = 125 from u8_eq (by assumption), tokC125]) rfl ⟨_, rfl, by omega, ⟨hk83, hv84⟩, hB85⟩
                | exact Ends.ok (⟨3, 0, [x]⟩, l.drop (s + 1)) (by rw [hT, show x = 91 from u8_eq (by assumption), tokC91]) rfl ⟨_, rfl, by omega, ⟨hk83, hv84⟩, hB85⟩
                | exact Ends.ok (⟨3, 0, [x]⟩, l.drop (s + 1)) (by rw [hT, show x = 93 from u8_eq (by assumption), tokC93]) rfl ⟨_, rfl, by omega, ⟨hk83, hv84⟩, hB85⟩
                | exact Ends.ok _ (by rw [hT, show x = 47 from u8_eq (by assumption), tokC47]; exact hra) rfl ⟨_, hkr, hkl, ⟨hk83, hv84⟩, hB85⟩
                | exact Ends.ok (⟨T.kind, T.n, []⟩, l.drop (wordAt l s)) (by rw [hX, if_neg (fun h => h (by assumption)), if_pos (by assumption)]) rfl ⟨_, rfl, hwl.2, ⟨hk83, hv84⟩, hB85⟩
                | exact Ends.ok (_, l.drop (wordAt l s)) (by rw [hX, if_neg (fun h => h (by assumption)), if_neg (bF (by assumption)), nameS_ok hra, word_drop]) rfl ⟨_, rfl, hwl.2, ⟨hk83, hv84⟩, hB85⟩
              · have h81' := of_decide_eq_false h81
                refine W.skip ?_
                refine W.seq ?_
                refine W.reg ?_ -- 20
                refine WL.p (.buildL (ps := _) blt27 rfl rfl rfl (by simp only [put1, List.map, List.zip, List.zipWith, List.set] <;> rfl)) rfl ?_
                refine WL.stL rfl rfl hk78 isz27 rfl rfl (fun w86 hkw86 huw86 hsw86 => ?_)
                have hk87 := hkw77.upd huw86 (by ((try simp only) <;> omega))
                have hv88 := BytesAt.upd hv79 huw86 (fun h0 => Nat.ne_of_lt (hvl5 h0))
                have hB89 := Touch.trans hB80 (Touch.of_new huw86 (by omega))
                refine WL.nil <| ?_
                refine W.ret (W.retc1 rfl rfl (ldRow hkw86 Tryd.underlying27 rfl isz27)  ?_)
                first
                | (exfalso; omega)
                | exact Ends.ok (⟨0, 0, []⟩, []) (tokS_end hsd (by simp_all)) rfl ⟨s, by rw [List.drop_eq_nil_of_le (by simp_all)], by omega, ⟨hk87, hv88⟩, hB89⟩
                | exact Ends.ok _ (by rw [hT, show x = 40 from u8_eq (by assumption), tokC40]; exact hra) rfl ⟨_, hkr, hkl, ⟨hk87, hv88⟩, hB89⟩
                | exact Ends.ok _ (by rw [hT, show x = 60 from u8_eq (by assumption), tokC60, ← show x = 60 from u8_eq (by assumption)]; exact hra) rfl ⟨_, hkr, hkl, ⟨hk87, hv88⟩, hB89⟩
                | exact Ends.ok _ (by rw [hT, show x = 62 from u8_eq (by assumption), tokC62, ← show x = 62 from u8_eq (by assumption)]; exact hra) rfl ⟨_, hkr, hkl, ⟨hk87, hv88⟩, hB89⟩
                | exact Ends.ok (⟨7, 0, []⟩, l.drop (s + 1)) (by rw [hT, show x = 123 from u8_eq (by assumption), tokC123]) rfl ⟨_, rfl, by omega, ⟨hk87, hv88⟩, hB89⟩
                | exact Ends.ok (⟨8, 0, []⟩, l.drop (s + 1)) (by rw [hT, show x = 125 from u8_eq (by assumption), tokC125]) rfl ⟨_, rfl, by omega, ⟨hk87, hv88⟩, hB89⟩
                | exact Ends.ok (⟨3, 0, [x]⟩, l.drop (s + 1)) (by rw [hT, show x = 91 from u8_eq (by assumption), tokC91]) rfl ⟨_, rfl, by omega, ⟨hk87, hv88⟩, hB89⟩
                | exact Ends.ok (⟨3, 0, [x]⟩, l.drop (s + 1)) (by rw [hT, show x = 93 from u8_eq (by assumption), tokC93]) rfl ⟨_, rfl, by omega, ⟨hk87, hv88⟩, hB89⟩
                | exact Ends.ok _ (by rw [hT, show x = 47 from u8_eq (by assumption), tokC47]; exact hra) rfl ⟨_, hkr, hkl, ⟨hk87, hv88⟩, hB89⟩
                | exact Ends.ok (⟨T.kind, T.n, []⟩, l.drop (wordAt l s)) (by rw [hX, if_neg (fun h => h (by assumption)), if_pos (by assumption)]) rfl ⟨_, rfl, hwl.2, ⟨hk87, hv88⟩, hB89⟩
                | exact Ends.ok (_, l.drop (wordAt l s)) (by rw [hX, if_neg (fun h => h (by assumption)), if_neg (bF (by assumption)), nameS_ok hra, word_drop]) rfl ⟨_, rfl, hwl.2, ⟨hk87, hv88⟩, hB89⟩
            · have h76' := of_decide_eq_false h76
              refine W.reg ?_ -- 16
              refine WL.p (.eql rfl rfl) rfl <| WL.p (.as rfl) rfl <| WL.nil <| ?_
              refine W.cond rfl (fun h90 => ?_) (fun h90 => ?_) -- slot 52
              · have h90' := of_decide_eq_true h90
                refine W.seq ?_
                refine W.reg ?_ -- 17
                refine WL.p (.mv rfl) rfl <| WL.p (.nck rfl) rfl <| WL.p (.fa Tryd.underlying71 rfl Tryd.sizeOf3 (by decide) rfl) rfl <| WL.r (Rd.ld (Tryd.isAgg3 _) rfl hk23 rfl) rfl <| WL.p (.iis (((s + 1 : Nat) : Int)) (.add rfl rfl (i64w (by omega))) (by omega)) rfl <| WL.p (.nck rfl) rfl <| WL.p (.fa Tryd.underlying71 rfl Tryd.sizeOf3 (by decide) rfl) rfl <| WL.st Tryd.sizeOf3 rfl rfl rfl hk23 (by first | decide | exact Nat.le_of_ble_eq_true rfl) (fun w91 hkw91 huw91 hsw91 => ?_)
                have hk92 := hk24.upd huw91 (by ((try simp only) <;> omega))
                have hv93 := BytesAt.upd hv25 huw91 hne
                have hB94 := Touch.trans hB26 (Touch.of_upd huw91)
                refine WL.nil <| ?_
                refine W.seq ?_
                refine W.seq ?_
                refine W.reg ?_ -- 18
                refine WL.p (.mv rfl) rfl <| WL.p (.eql rfl rfl) rfl <| WL.nil <| ?_
                refine W.cond rfl (fun h95 => ?_) (fun h95 => ?_) -- slot 63
                · have h95' := of_decide_eq_true h95
                  refine W.seq ?_
                  refine W.reg ?_ -- 19
                  refine WL.p (.buildL (ps := _) blt27 rfl rfl rfl (by simp only [put1, List.map, List.zip, List.zipWith, List.set] <;> rfl)) rfl ?_
                  refine WL.stL rfl rfl hk92 isz27 rfl rfl (fun w96 hkw96 huw96 hsw96 => ?_)
                  have hk97 := hkw91.upd huw96 (by ((try simp only) <;> omega))
                  have hv98 := BytesAt.upd hv93 huw96 (fun h0 => Nat.ne_of_lt (hvl5 h0))
                  have hB99 := Touch.trans hB94 (Touch.of_new huw96 (by omega))
                  refine WL.nil <| ?_
                  refine W.ret (W.retc1 rfl rfl (ldRow hkw96 Tryd.underlying27 rfl isz27)  ?_)
                  first
                  | (exfalso; omega)
                  | exact Ends.ok (⟨0, 0, []⟩, []) (tokS_end hsd (by simp_all)) rfl ⟨s, by rw [List.drop_eq_nil_of_le (by simp_all)], by omega, ⟨hk97, hv98⟩, hB99⟩
                  | exact Ends.ok _ (by rw [hT, show x = 40 from u8_eq (by assumption), tokC40]; exact hra) rfl ⟨_, hkr, hkl, ⟨hk97, hv98⟩, hB99⟩
                  | exact Ends.ok _ (by rw [hT, show x = 60 from u8_eq (by assumption), tokC60, ← show x = 60 from u8_eq (by assumption)]; exact hra) rfl ⟨_, hkr, hkl, ⟨hk97, hv98⟩, hB99⟩
                  | exact Ends.ok _ (by rw [hT, show x = 62 from u8_eq (by assumption), tokC62, ← show x = 62 from u8_eq (by assumption)]; exact hra) rfl ⟨_, hkr, hkl, ⟨hk97, hv98⟩, hB99⟩
                  | exact Ends.ok (⟨7, 0, []⟩, l.drop (s + 1)) (by rw [hT, show x = 123 from u8_eq (by assumption), tokC123]) rfl ⟨_, rfl, by omega, ⟨hk97, hv98⟩, hB99⟩
                  | exact Ends.ok (⟨8, 0, []⟩, l.drop (s + 1)) (by rw [hT, show x = 125 from u8_eq (by assumption), tokC125]) rfl ⟨_, rfl, by omega, ⟨hk97, hv98⟩, hB99⟩
                  | exact Ends.ok (⟨3, 0, [x]⟩, l.drop (s + 1)) (by rw [hT, show x = 91 from u8_eq (by assumption), tokC91]) rfl ⟨_, rfl, by omega, ⟨hk97, hv98⟩, hB99⟩
                  | exact Ends.ok (⟨3, 0, [x]⟩, l.drop (s + 1)) (by rw [hT, show x = 93 from u8_eq (by assumption), tokC93]) rfl ⟨_, rfl, by omega, ⟨hk97, hv98⟩, hB99⟩
                  | exact Ends.ok _ (by rw [hT, show x = 47 from u8_eq (by assumption), tokC47]; exact hra) rfl ⟨_, hkr, hkl, ⟨hk97, hv98⟩, hB99⟩
                  | exact Ends.ok (⟨T.kind, T.n, []⟩, l.drop (wordAt l s)) (by rw [hX, if_neg (fun h => h (by assumption)), if_pos (by assumption)]) rfl ⟨_, rfl, hwl.2, ⟨hk97, hv98⟩, hB99⟩
                  | exact Ends.ok (_, l.drop (wordAt l s)) (by rw [hX, if_neg (fun h => h (by assumption)), if_neg (bF (by assumption)), nameS_ok hra, word_drop]) rfl ⟨_, rfl, hwl.2, ⟨hk97, hv98⟩, hB99⟩
                · have h95' := of_decide_eq_false h95
                  refine W.skip ?_
                  refine W.seq ?_
                  refine W.reg ?_ -- 20
                  refine WL.p (.buildL (ps := _) blt27 rfl rfl rfl (by simp only [put1, List.map, List.zip, List.zipWith, List.set] <;> rfl)) rfl ?_
                  refine WL.stL rfl rfl hk92 isz27 rfl rfl (fun w100 hkw100 huw100 hsw100 => ?_)
                  have hk101 := hkw91.upd huw100 (by ((try simp only) <;> omega))
                  have hv102 := BytesAt.upd hv93 huw100 (fun h0 => Nat.ne_of_lt (hvl5 h0))
                  have hB103 := Touch.trans hB94 (Touch.of_new huw100 (by omega))
                  refine WL.nil <| ?_
                  refine W.ret (W.retc1 rfl rfl (ldRow hkw100 Tryd.underlying27 rfl isz27)  ?_)
                  first
                  | (exfalso; omega)
                  | exact Ends.ok (⟨0, 0, []⟩, []) (tokS_end hsd (by simp_all)) rfl ⟨s, by rw [List.drop_eq_nil_of_le (by simp_all)], by omega, ⟨hk101, hv102⟩, hB103⟩
                  | exact Ends.ok _ (by rw [hT, show x = 40 from u8_eq (by assumption), tokC40]; exact hra) rfl ⟨_, hkr, hkl, ⟨hk101, hv102⟩, hB103⟩
                  | exact Ends.ok _ (by rw [hT, show x = 60 from u8_eq (by assumption), tokC60, ← show x = 60 from u8_eq (by assumption)]; exact hra) rfl ⟨_, hkr, hkl, ⟨hk101, hv102⟩, hB103⟩
                  | exact Ends.ok _ (by rw [hT, show x = 62 from u8_eq (by assumption), tokC62, ← show x = 62 from u8_eq (by assumption)]; exact hra) rfl ⟨_, hkr, hkl, ⟨hk101, hv102⟩, hB103⟩
                  | exact Ends.ok (⟨7, 0, []⟩, l.drop (s + 1)) (by rw [hT, show x = 123 from u8_eq (by assumption), tokC123]) rfl ⟨_, rfl, by omega, ⟨hk101, hv102⟩, hB103⟩
                  | exact Ends.ok (⟨8, 0, []⟩, l.drop (s + 1)) (by rw [hT, show x = 125 from u8_eq (by assumption), tokC125]) rfl ⟨_, rfl, by omega, ⟨hk101, hv102⟩, hB103⟩
                  | exact Ends.ok (⟨3, 0, [x]⟩, l.drop (s + 1)) (by rw [hT, show x = 91 from u8_eq (by assumption), tokC91]) rfl ⟨_, rfl, by omega, ⟨hk101, hv102⟩, hB103⟩
                  | exact Ends.ok (⟨3, 0, [x]⟩, l.drop (s + 1)) (by rw [hT, show x = 93 from u8_eq (by assumption), tokC93]) rfl ⟨_, rfl, by omega, ⟨hk101, hv102⟩, hB103⟩
                  | exact Ends.ok _ (by rw [hT, show x = 47 from u8_eq (by assumption), tokC47]; exact hra) rfl ⟨_, hkr, hkl, ⟨hk101, hv102⟩, hB103⟩
                  | exact Ends.ok (⟨T.kind, T.n, []⟩, l.drop (wordAt l s)) (by rw [hX, if_neg (fun h => h (by assumption)), if_pos (by assumption)]) rfl ⟨_, rfl, hwl.2, ⟨hk101, hv102⟩, hB103⟩
                  | exact Ends.ok (_, l.drop (wordAt l s)) (by rw [hX, if_neg (fun h => h (by assumption)), if_neg (bF (by assumption)), nameS_ok hra, word_drop]) rfl ⟨_, rfl, hwl.2, ⟨hk101, hv102⟩, hB103⟩
              · have h90' := of_decide_eq_false h90
                refine W.seq ?_
                refine W.seq ?_
                refine W.reg ?_ -- 21
                refine WL.p (.eql rfl rfl) rfl <| WL.p (.as rfl) rfl <| WL.nil <| ?_
                refine W.cond rfl (fun h104 => ?_) (fun h104 => ?_) -- slot 66
                · have h104' := of_decide_eq_true h104
                  refine W.skip ?_
                  refine W.condT rfl h104 ?_
                  refine W.seq ?_
                  refine W.reg ?_ -- 23
                  refine WL.p (.mv rfl) rfl <| WL.p (.nck rfl) rfl <| WL.p (.fa Tryd.underlying71 rfl Tryd.sizeOf3 (by decide) rfl) rfl <| WL.r (Rd.ld (Tryd.isAgg3 _) rfl hk23 rfl) rfl <| WL.p (.iis (((s + 1 : Nat) : Int)) (.add rfl rfl (i64w (by omega))) (by omega)) rfl <| WL.p (.nck rfl) rfl <| WL.p (.fa Tryd.underlying71 rfl Tryd.sizeOf3 (by decide) rfl) rfl <| WL.st Tryd.sizeOf3 rfl rfl rfl hk23 (by first | decide | exact Nat.le_of_ble_eq_true rfl) (fun w105 hkw105 huw105 hsw105 => ?_)
                  have hk106 := hk24.upd huw105 (by ((try simp only) <;> omega))
                  have hv107 := BytesAt.upd hv25 huw105 hne
                  have hB108 := Touch.trans hB26 (Touch.of_upd huw105)
                  refine WL.nil <| ?_
                  refine W.seq ?_
                  refine W.reg ?_ -- 24
                  refine WL.p (.mv rfl) rfl <| WL.bsl (ps := _) Tryd.underlying32 Tryd.sizeOf5 Tryd.zeroValue5 rfl rfl rfl rfl rfl (by simp only [put1, List.map, List.zip, List.zipWith, List.set, List.replicate] <;> rfl) rfl (fun b109 wb109 eb109 hkb109 hub109 hsb109 => ?_)
                  have hl111 : r < b109 := by rw [eb109]; exact hkw105.lt
                  have hk110 := hkw105.upd hub109 (Nat.ne_of_lt hl111)
                  have hl113 : b1 < b109 := by rw [eb109]; exact hk106.lt
                  have hk112 := hk106.upd hub109 (Nat.ne_of_lt hl113)
                  have hvl115 := fun h0 => eb109 ▸ hv107.lt h0
                  have hv114 := BytesAt.upd hv107 hub109 (fun h0 => Nat.ne_of_lt (hvl115 h0))
                  have hgeb109 : w.heap.size ≤ b109 := by rw [eb109]; exact hB108.size
                  have hB116 := Touch.trans hB108 (Touch.of_new hub109 hgeb109)
                  refine WL.r (Rd.b2s (l := [x]) Tryd.underlying32 Tryd.underlying5 Tryd.underlying9 rfl (BytesAt.one hkb109 rfl)) rfl <| ?_
                  refine WL.p (.buildL (ps := _) blt27 rfl rfl rfl (by simp only [put1, List.map, List.zip, List.zipWith, List.set] <;> rfl)) rfl ?_
                  refine WL.stL rfl rfl hk112 isz27 rfl rfl (fun w117 hkw117 huw117 hsw117 => ?_)
                  have hk118 := hk110.upd huw117 (by ((try simp only) <;> omega))
                  have hk119 := hkb109.upd huw117 (by ((try simp only) <;> omega))
                  have hv120 := BytesAt.upd hv114 huw117 (fun h0 => Nat.ne_of_lt (hvl5 h0))
                  have hB121 := Touch.trans hB116 (Touch.of_new huw117 (by omega))
                  refine WL.nil <| ?_
                  refine W.ret (W.retc1 rfl rfl (ldRow hkw117 Tryd.underlying27 rfl isz27)  ?_)
                  first
                  | (exfalso; omega)
                  | exact Ends.ok (⟨0, 0, []⟩, []) (tokS_end hsd (by simp_all)) rfl ⟨s, by rw [List.drop_eq_nil_of_le (by simp_all)], by omega, ⟨hk118, hv120⟩, hB121⟩
                  | exact Ends.ok _ (by rw [hT, show x = 40 from u8_eq (by assumption), tokC40]; exact hra) rfl ⟨_, hkr, hkl, ⟨hk118, hv120⟩, hB121⟩
                  | exact Ends.ok _ (by rw [hT, show x = 60 from u8_eq (by assumption), tokC60, ← show x = 60 from u8_eq (by assumption)]; exact hra) rfl ⟨_, hkr, hkl, ⟨hk118, hv120⟩, hB121⟩
                  | exact Ends.ok _ (by rw [hT, show x = 62 from u8_eq (by assumption), tokC62, ← show x = 62 from u8_eq (by assumption)]; exact hra) rfl ⟨_, hkr, hkl, ⟨hk118, hv120⟩, hB121⟩
                  | exact Ends.ok (⟨7, 0, []⟩, l.drop (s + 1)) (by rw [hT, show x = 123 from u8_eq (by assumption), tokC123]) rfl ⟨_, rfl, by omega, ⟨hk118, hv120⟩, hB121⟩
                  | exact Ends.ok (⟨8, 0, []⟩, l.drop (s + 1)) (by rw [hT, show x = 125 from u8_eq (by assumption), tokC125]) rfl ⟨_, rfl, by omega, ⟨hk118, hv120⟩, hB121⟩
                  | exact Ends.ok (⟨3, 0, [x]⟩, l.drop (s + 1)) (by rw [hT, show x = 91 from u8_eq (by assumption), tokC91]) rfl ⟨_, rfl, by omega, ⟨hk118, hv120⟩, hB121⟩
                  | exact Ends.ok (⟨3, 0, [x]⟩, l.drop (s + 1)) (by rw [hT, show x = 93 from u8_eq (by assumption), tokC93]) rfl ⟨_, rfl, by omega, ⟨hk118, hv120⟩, hB121⟩
                  | exact Ends.ok _ (by rw [hT, show x = 47 from u8_eq (by assumption), tokC47]; exact hra) rfl ⟨_, hkr, hkl, ⟨hk118, hv120⟩, hB121⟩
                  | exact Ends.ok (⟨T.kind, T.n, []⟩, l.drop (wordAt l s)) (by rw [hX, if_neg (fun h => h (by assumption)), if_pos (by assumption)]) rfl ⟨_, rfl, hwl.2, ⟨hk118, hv120⟩, hB121⟩
                  | exact Ends.ok (_, l.drop (wordAt l s)) (by rw [hX, if_neg (fun h => h (by assumption)), if_neg (bF (by assumption)), nameS_ok hra, word_drop]) rfl ⟨_, rfl, hwl.2, ⟨hk118, hv120⟩, hB121⟩
                · have h104' := of_decide_eq_false h104
                  refine W.reg ?_ -- 22
                  refine WL.p (.eql rfl rfl) rfl <| WL.p (.as rfl) rfl <| WL.nil <| ?_
                  refine W.cond rfl (fun h122 => ?_) (fun h122 => ?_) -- slot 66
                  · have h122' := of_decide_eq_true h122
                    refine W.seq ?_
                    refine W.reg ?_ -- 23
                    refine WL.p (.mv rfl) rfl <| WL.p (.nck rfl) rfl <| WL.p (.fa Tryd.underlying71 rfl Tryd.sizeOf3 (by decide) rfl) rfl <| WL.r (Rd.ld (Tryd.isAgg3 _) rfl hk23 rfl) rfl <| WL.p (.iis (((s + 1 : Nat) : Int)) (.add rfl rfl (i64w (by omega))) (by omega)) rfl <| WL.p (.nck rfl) rfl <| WL.p (.fa Tryd.underlying71 rfl Tryd.sizeOf3 (by decide) rfl) rfl <| WL.st Tryd.sizeOf3 rfl rfl rfl hk23 (by first | decide | exact Nat.le_of_ble_eq_true rfl) (fun w123 hkw123 huw123 hsw123 => ?_)
                    have hk124 := hk24.upd huw123 (by ((try simp only) <;> omega))
                    have hv125 := BytesAt.upd hv25 huw123 hne
                    have hB126 := Touch.trans hB26 (Touch.of_upd huw123)
                    refine WL.nil <| ?_
                    refine W.seq ?_
                    refine W.reg ?_ -- 24
                    refine WL.p (.mv rfl) rfl <| WL.bsl (ps := _) Tryd.underlying32 Tryd.sizeOf5 Tryd.zeroValue5 rfl rfl rfl rfl rfl (by simp only [put1, List.map, List.zip, List.zipWith, List.set, List.replicate] <;> rfl) rfl (fun b127 wb127 eb127 hkb127 hub127 hsb127 => ?_)
                    have hl129 : r < b127 := by rw [eb127]; exact hkw123.lt
                    have hk128 := hkw123.upd hub127 (Nat.ne_of_lt hl129)
                    have hl131 : b1 < b127 := by rw [eb127]; exact hk124.lt
                    have hk130 := hk124.upd hub127 (Nat.ne_of_lt hl131)
                    have hvl133 := fun h0 => eb127 ▸ hv125.lt h0
                    have hv132 := BytesAt.upd hv125 hub127 (fun h0 => Nat.ne_of_lt (hvl133 h0))
                    have hgeb127 : w.heap.size ≤ b127 := by rw [eb127]; exact hB126.size
                    have hB134 := Touch.trans hB126 (Touch.of_new hub127 hgeb127)
                    refine WL.r (Rd.b2s (l := [x]) Tryd.underlying32 Tryd.underlying5 Tryd.underlying9 rfl (BytesAt.one hkb127 rfl)) rfl <| ?_
                    refine WL.p (.buildL (ps := _) blt27 rfl rfl rfl (by simp only [put1, List.map, List.zip, List.zipWith, List.set] <;> rfl)) rfl ?_
                    refine WL.stL rfl rfl hk130 isz27 rfl rfl (fun w135 hkw135 huw135 hsw135 => ?_)
                    have hk136 := hk128.upd huw135 (by ((try simp only) <;> omega))
                    have hk137 := hkb127.upd huw135 (by ((try simp only) <;> omega))
                    have hv138 := BytesAt.upd hv132 huw135 (fun h0 => Nat.ne_of_lt (hvl5 h0))
                    have hB139 := Touch.trans hB134 (Touch.of_new huw135 (by omega))
                    refine WL.nil <| ?_
                    refine W.ret (W.retc1 rfl rfl (ldRow hkw135 Tryd.underlying27 rfl isz27)  ?_)
                    first
                    | (exfalso; omega)
                    | exact Ends.ok (⟨0, 0, []⟩, []) (tokS_end hsd (by simp_all)) rfl ⟨s, by rw [List.drop_eq_nil_of_le (by simp_all)], by omega, ⟨hk136, hv138⟩, hB139⟩
                    | exact Ends.ok _ (by rw [hT, show x = 40 from u8_eq (by assumption), tokC40]; exact hra) rfl ⟨_, hkr, hkl, ⟨hk136, hv138⟩, hB139⟩
                    | exact Ends.ok _ (by rw [hT, show x = 60 from u8_eq (by assumption), tokC60, ← show x = 60 from u8_eq (by assumption)]; exact hra) rfl ⟨_, hkr, hkl, ⟨hk136, hv138⟩, hB139⟩
                    | exact Ends.ok _ (by rw [hT, show x = 62 from u8_eq (by assumption), tokC62, ← show x = 62 from u8_eq (by assumption)]; exact hra) rfl ⟨_, hkr, hkl, ⟨hk136, hv138⟩, hB139⟩
                    | exact Ends.ok (⟨7, 0, []⟩, l.drop (s + 1)) (by rw [hT, show x = 123 from u8_eq (by assumption), tokC123]) rfl ⟨_, rfl, by omega, ⟨hk136, hv138⟩, hB139⟩
                    | exact Ends.ok (⟨8, 0, []⟩, l.drop (s + 1)) (by rw [hT, show x = 125 from u8_eq (by assumption), tokC125]) rfl ⟨_, rfl, by omega, ⟨hk136, hv138⟩, hB139⟩
                    | exact Ends.ok (⟨3, 0, [x]⟩, l.drop (s + 1)) (by rw [hT, show x = 91 from u8_eq (by assumption), tokC91]) rfl ⟨_, rfl, by omega, ⟨hk136, hv138⟩, hB139⟩
                    | exact Ends.ok (⟨3, 0, [x]⟩, l.drop (s + 1)) (by rw [hT, show x = 93 from u8_eq (by assumption), tokC93]) rfl ⟨_, rfl, by omega, ⟨hk136, hv138⟩, hB139⟩
                    | exact Ends.ok _ (by rw [hT, show x = 47 from u8_eq (by assumption), tokC47]; exact hra) rfl ⟨_, hkr, hkl, ⟨hk136, hv138⟩, hB139⟩
                    | exact Ends.ok (⟨T.kind, T.n, []⟩, l.drop (wordAt l s)) (by rw [hX, if_neg (fun h => h (by assumption)), if_pos (by assumption)]) rfl ⟨_, rfl, hwl.2, ⟨hk136, hv138⟩, hB139⟩
                    | exact Ends.ok (_, l.drop (wordAt l s)) (by rw [hX, if_neg (fun h => h (by assumption)), if_neg (bF (by assumption)), nameS_ok hra, word_drop]) rfl ⟨_, rfl, hwl.2, ⟨hk136, hv138⟩, hB139⟩
                  · have h122' := of_decide_eq_false h122
                    refine W.seq ?_
                    refine W.reg ?_ -- 25
                    refine WL.p (.eql rfl rfl) rfl <| WL.p (.as rfl) rfl <| WL.nil <| ?_
                    refine W.cond rfl (fun h140 => ?_) (fun h140 => ?_) -- slot 80
                    · have h140' := of_decide_eq_true h140
                      refine W.seq ?_
                      refine W.reg ?_ -- 26
                      refine WL.p (.mv rfl) rfl <| WL.p (.nck rfl) rfl <| WL.p (.fa Tryd.underlying71 rfl Tryd.sizeOf3 (by decide) rfl) rfl <| WL.r (Rd.ld (Tryd.isAgg3 _) rfl hk23 rfl) rfl <| WL.p (.iis (((s + 1 : Nat) : Int)) (.add rfl rfl (i64w (by omega))) (by omega)) rfl <| WL.p (.nck rfl) rfl <| WL.p (.fa Tryd.underlying71 rfl Tryd.sizeOf3 (by decide) rfl) rfl <| WL.st Tryd.sizeOf3 rfl rfl rfl hk23 (by first | decide | exact Nat.le_of_ble_eq_true rfl) (fun w141 hkw141 huw141 hsw141 => ?_)
                      have hk142 := hk24.upd huw141 (by ((try simp only) <;> omega))
                      have hv143 := BytesAt.upd hv25 huw141 hne
                      have hB144 := Touch.trans hB26 (Touch.of_upd huw141)
                      refine WL.nil <| ?_
                      refine W.seq ?_
                      refine W.reg ?_ -- 27
                      refine WL.p (.mv rfl) rfl <| WL.ce hb79 rfl rfl ((scan_slash r p l c (s + 1) _ ⟨hkw141, hv143⟩ hne hc hl (by omega))) (fun k147 w145 hrw145 hw145 => ?_) (fun a146 w145 hrw145 hw145 => ?_)
                      · skip
                        have hBew145 := Touch.trans hB144 (Touch.mono hw145 hB144.size)
                        exact pn_is (Ends.err k147 (by rw [hT, show x = 47 from u8_eq (by assumption), tokC47]; exact hrw145) hBew145)
                      · skip
                        obtain ⟨kr, hkr, hkl, hw145⟩ := hw145
                        have hk148 := hw145.1.1
                        have hk149 := Blk.touch hk142 hw145.2 hk142.lt (by omega)
                        have hv150 := hw145.1.2
                        have hB151 := Touch.trans hB144 (Touch.mono hw145.2 hB144.size)
                        have hra := hrw145
                        obtain ⟨a0, ha0⟩ : ∃ a0, a0 = a146 := ⟨_, rfl⟩
                        refine WL.stL rfl rfl hk149 isz27 rfl rfl (fun w152 hkw152 huw152 hsw152 => ?_)
                        have hk153 := hk148.upd huw152 (by ((try simp only) <;> omega))
                        have hv154 := BytesAt.upd hv150 huw152 (fun h0 => Nat.ne_of_lt (hvl5 h0))
                        have hB155 := Touch.trans hB151 (Touch.of_new huw152 (by omega))
                        refine WL.nil <| ?_
                        refine W.ret (W.retc1 rfl rfl (ldRow hkw152 Tryd.underlying27 rfl isz27)  ?_)
                        first
                        | (exfalso; omega)
                        | exact Ends.ok (⟨0, 0, []⟩, []) (tokS_end hsd (by simp_all)) rfl ⟨s, by rw [List.drop_eq_nil_of_le (by simp_all)], by omega, ⟨hk153, hv154⟩, hB155⟩
                        | exact Ends.ok _ (by rw [hT, show x = 40 from u8_eq (by assumption), tokC40]; exact hra) rfl ⟨_, hkr, hkl, ⟨hk153, hv154⟩, hB155⟩
                        | exact Ends.ok _ (by rw [hT, show x = 60 from u8_eq (by assumption), tokC60, ← show x = 60 from u8_eq (by assumption)]; exact hra) rfl ⟨_, hkr, hkl, ⟨hk153, hv154⟩, hB155⟩
                        | exact Ends.ok _ (by rw [hT, show x = 62 from u8_eq (by assumption), tokC62, ← show x = 62 from u8_eq (by assumption)]; exact hra) rfl ⟨_, hkr, hkl, ⟨hk153, hv154⟩, hB155⟩
                        | exact Ends.ok (⟨7, 0, []⟩, l.drop (s + 1)) (by rw [hT, show x = 123 from u8_eq (by assumption), tokC123]) rfl ⟨_, rfl, by omega, ⟨hk153, hv154⟩, hB155⟩
                        | exact Ends.ok (⟨8, 0, []⟩, l.drop (s + 1)) (by rw [hT, show x = 125 from u8_eq (by assumption), tokC125]) rfl ⟨_, rfl, by omega, ⟨hk153, hv154⟩, hB155⟩
                        | exact Ends.ok (⟨3, 0, [x]⟩, l.drop (s + 1)) (by rw [hT, show x = 91 from u8_eq (by assumption), tokC91]) rfl ⟨_, rfl, by omega, ⟨hk153, hv154⟩, hB155⟩
                        | exact Ends.ok (⟨3, 0, [x]⟩, l.drop (s + 1)) (by rw [hT, show x = 93 from u8_eq (by assumption), tokC93]) rfl ⟨_, rfl, by omega, ⟨hk153, hv154⟩, hB155⟩
                        | exact Ends.ok _ (by rw [hT, show x = 47 from u8_eq (by assumption), tokC47]; exact hra) rfl ⟨_, hkr, hkl, ⟨hk153, hv154⟩, hB155⟩
                        | exact Ends.ok (⟨T.kind, T.n, []⟩, l.drop (wordAt l s)) (by rw [hX, if_neg (fun h => h (by assumption)), if_pos (by assumption)]) rfl ⟨_, rfl, hwl.2, ⟨hk153, hv154⟩, hB155⟩
                        | exact Ends.ok (_, l.drop (wordAt l s)) (by rw [hX, if_neg (fun h => h (by assumption)), if_neg (bF (by assumption)), nameS_ok hra, word_drop]) rfl ⟨_, rfl, hwl.2, ⟨hk153, hv154⟩, hB155⟩
                    · have h140' := of_decide_eq_false h140
                      refine W.skip ?_
                      refine W.seq ?_
                      refine W.reg ?_ -- 28
                      refine WL.p (.mv rfl) rfl <| WL.c1 hb80 rfl rfl ((scan_word r p l c s _ ⟨hk23, hv25⟩ hne hc hl (by omega))) (fun w156 hw156 => ?_)
                      have hk157 := hw156.1.1
                      have hk158 := Blk.touch hk24 hw156.2 hk24.lt (by omega)
                      have hv159 := hw156.1.2
                      have hB160 := Touch.trans hB26 (Touch.mono hw156.2 hB26.size)
                      refine WL.p (.as rfl) rfl <| WL.nil <| ?_
                      refine W.seq ?_
                      obtain ⟨T, hTk⟩ : ∃ T, T = tokenL ((l.drop s).takeWhile regB) := ⟨_, rfl⟩
                      have hX : tokS (l.drop n) = if T.e ≠ 0 then .error T.e else if T.ok then .ok (⟨T.kind, T.n, []⟩, l.drop (wordAt l s)) else nameS 3 (l.drop s) := by rw [hT, tokC_word _ (by omega) (by omega) (by omega) (by omega) (by omega) (by omega) (by omega) (by omega) (by omega), hx, ← List.drop_eq_getElem_cons hlt, ← word_drop, hTk]; rfl
                      have hTc : ∀ w, Calls Tryd.prog 17 #[.string (bs ((l.drop s).takeWhile regB))] w fun e w' => e = .returned T.val ∧ Below w.heap.size w w' := fun w => by rw [hTk]; exact dec_Token _ w
                      refine W.reg ?_ -- 29
                      refine WL.p (.mv rfl) rfl <| WL.c1 hb17 rfl rfl ((hTc _)) (fun w161 hw161 => ?_)
                      have hk162 := hk157.below hw161 hk157.lt
                      have hk163 := hk158.below hw161 hk158.lt
                      have hv164 := BytesAt.below hv159 hw161 (fun h0 => hv159.lt h0)
                      have hB165 := Touch.trans hB160 (Touch.mono (Touch.of_below hw161) hB160.size)
                      refine WL.p (.mv rfl) rfl <| WL.p (.ext rfl rfl) rfl <| WL.p (.ext rfl rfl) rfl <| WL.p (.ext rfl rfl) rfl <| WL.alloc Tryd.zeroValue27 rfl (fun b166 wb166 eb166 hkb166 hub166 hsb166 => ?_)
                      have hl168 : r < b166 := by rw [eb166]; exact hk162.lt
                      have hk167 := hk162.upd hub166 (Nat.ne_of_lt hl168)
                      have hl170 : b1 < b166 := by rw [eb166]; exact hk163.lt
                      have hk169 := hk163.upd hub166 (Nat.ne_of_lt hl170)
                      have hvl172 := fun h0 => eb166 ▸ hv164.lt h0
                      have hv171 := BytesAt.upd hv164 hub166 (fun h0 => Nat.ne_of_lt (hvl172 h0))
                      have hgeb166 : w.heap.size ≤ b166 := by rw [eb166]; exact hB165.size
                      have hB173 := Touch.trans hB165 (Touch.of_new hub166 hgeb166)
                      refine WL.stL rfl rfl hkb166 isz27 rfl rfl (fun w174 hkw174 huw174 hsw174 => ?_)
                      have hk175 := hk167.upd huw174 (by ((try simp only) <;> omega))
                      have hk176 := hk169.upd huw174 (by ((try simp only) <;> omega))
                      have hv177 := BytesAt.upd hv171 huw174 (fun h0 => Nat.ne_of_lt (hvl172 h0))
                      have hB178 := Touch.trans hB173 (Touch.of_new huw174 (by omega))
                      refine WL.p (.as rfl) rfl <| WL.p (.as rfl) rfl <| WL.nil <| ?_
                      refine W.seq ?_
                      refine W.block ?_
                      refine W.seq ?_
                      refine W.reg ?_ -- 30
                      refine WL.p (.mv rfl) rfl <| WL.p (.neq rfl rfl) rfl <| WL.p (.as rfl) rfl <| WL.nil <| ?_
                      refine W.cond rfl (fun h179 => ?_) (fun h179 => ?_) -- slot 99
                      · have h179' := ndT h179
                        refine W.reg ?_ -- 31
                        refine WL.p (.mv rfl) rfl <| WL.p (.mkI Tryd.underlying28 rfl) rfl <| WL.panic rfl (pn_is ?_)
                        exact Ends.err T.e (by rw [hX, if_pos (by assumption)]) hB178
                      · have h179' := ndF h179
                        refine W.seq ?_
                        refine W.reg ?_ -- 32
                        refine WL.p (.mv rfl) rfl <| WL.p (.as rfl) rfl <| WL.nil <| ?_
                        refine W.cond rfl (fun h180 => ?_) (fun h180 => ?_) -- slot 104
                        · have h180' := h180
                          refine W.seq ?_
                          refine W.reg ?_ -- 33
                          refine WL.r (Rd.ldA rfl hkw174 Tryd.underlying27 rfl isz27) rfl <| WL.stL rfl rfl hk176 isz27 rfl rfl (fun w181 hkw181 huw181 hsw181 => ?_)
                          have hk182 := hk175.upd huw181 (by ((try simp only) <;> omega))
                          have hk183 := hkw174.upd huw181 (by ((try simp only) <;> omega))
                          have hv184 := BytesAt.upd hv177 huw181 (fun h0 => Nat.ne_of_lt (hvl5 h0))
                          have hB185 := Touch.trans hB178 (Touch.of_new huw181 (by omega))
                          refine WL.nil <| ?_
                          refine W.ret (W.retc1 rfl rfl (ldRow hkw181 Tryd.underlying27 rfl isz27)  ?_)
                          first
                          | (exfalso; omega)
                          | exact Ends.ok (⟨0, 0, []⟩, []) (tokS_end hsd (by simp_all)) rfl ⟨s, by rw [List.drop_eq_nil_of_le (by simp_all)], by omega, ⟨hk182, hv184⟩, hB185⟩
                          | exact Ends.ok _ (by rw [hT, show x = 40 from u8_eq (by assumption), tokC40]; exact hra) rfl ⟨_, hkr, hkl, ⟨hk182, hv184⟩, hB185⟩
                          | exact Ends.ok _ (by rw [hT, show x = 60 from u8_eq (by assumption), tokC60, ← show x = 60 from u8_eq (by assumption)]; exact hra) rfl ⟨_, hkr, hkl, ⟨hk182, hv184⟩, hB185⟩
                          | exact Ends.ok _ (by rw [hT, show x = 62 from u8_eq (by assumption), tokC62, ← show x = 62 from u8_eq (by assumption)]; exact hra) rfl ⟨_, hkr, hkl, ⟨hk182, hv184⟩, hB185⟩
                          | exact Ends.ok (⟨7, 0, []⟩, l.drop (s + 1)) (by rw [hT, show x = 123 from u8_eq (by assumption), tokC123]) rfl ⟨_, rfl, by omega, ⟨hk182, hv184⟩, hB185⟩
                          | exact Ends.ok (⟨8, 0, []⟩, l.drop (s + 1)) (by rw [hT, show x = 125 from u8_eq (by assumption), tokC125]) rfl ⟨_, rfl, by omega, ⟨hk182, hv184⟩, hB185⟩
                          | exact Ends.ok (⟨3, 0, [x]⟩, l.drop (s + 1)) (by rw [hT, show x = 91 from u8_eq (by assumption), tokC91]) rfl ⟨_, rfl, by omega, ⟨hk182, hv184⟩, hB185⟩
                          | exact Ends.ok (⟨3, 0, [x]⟩, l.drop (s + 1)) (by rw [hT, show x = 93 from u8_eq (by assumption), tokC93]) rfl ⟨_, rfl, by omega, ⟨hk182, hv184⟩, hB185⟩
                          | exact Ends.ok _ (by rw [hT, show x = 47 from u8_eq (by assumption), tokC47]; exact hra) rfl ⟨_, hkr, hkl, ⟨hk182, hv184⟩, hB185⟩
                          | exact Ends.ok (⟨T.kind, T.n, []⟩, l.drop (wordAt l s)) (by rw [hX, if_neg (fun h => h (by assumption)), if_pos (by assumption)]) rfl ⟨_, rfl, hwl.2, ⟨hk182, hv184⟩, hB185⟩
                          | exact Ends.ok (_, l.drop (wordAt l s)) (by rw [hX, if_neg (fun h => h (by assumption)), if_neg (bF (by assumption)), nameS_ok hra, word_drop]) rfl ⟨_, rfl, hwl.2, ⟨hk182, hv184⟩, hB185⟩
                        · have h180' := h180
                          refine W.skip ?_
                          refine W.seq ?_
                          refine W.reg ?_ -- 34
                          refine WL.p (.mv rfl) rfl <| WL.ce hb81 rfl rfl ((scan_name 3 _ _ (by have := word_len l s; omega))) (fun k188 w186 hrw186 hw186 => ?_) (fun a187 w186 hrw186 hw186 => ?_)
                          · skip
                            have hBew186 := Touch.trans hB178 (Touch.mono (Touch.of_below hw186) hB178.size)
                            exact pn_is (Ends.err k188 (by rw [hX, if_neg (fun h => h (by assumption)), if_neg (bF (by assumption))]; exact nameS_err hrw186) hBew186)
                          · skip
                            have hk189 := hk175.below hw186 hk175.lt
                            have hk190 := hk176.below hw186 hk176.lt
                            have hk191 := hkw174.below hw186 hkw174.lt
                            have hv192 := BytesAt.below hv177 hw186 (fun h0 => hv177.lt h0)
                            have hB193 := Touch.trans hB178 (Touch.mono (Touch.of_below hw186) hB178.size)
                            obtain ⟨a0, ha0⟩ : ∃ a0, a0 = a187 := ⟨_, rfl⟩
                            have hra := hrw186
                            refine WL.stL rfl rfl hk190 isz27 rfl rfl (fun w194 hkw194 huw194 hsw194 => ?_)
                            have hk195 := hk189.upd huw194 (by ((try simp only) <;> omega))
                            have hk196 := hk191.upd huw194 (by ((try simp only) <;> omega))
                            have hv197 := BytesAt.upd hv192 huw194 (fun h0 => Nat.ne_of_lt (hvl5 h0))
                            have hB198 := Touch.trans hB193 (Touch.of_new huw194 (by omega))
                            refine WL.nil <| ?_
                            refine W.ret (W.retc1 rfl rfl (ldRow hkw194 Tryd.underlying27 rfl isz27)  ?_)
                            first
                            | (exfalso; omega)
                            | exact Ends.ok (⟨0, 0, []⟩, []) (tokS_end hsd (by simp_all)) rfl ⟨s, by rw [List.drop_eq_nil_of_le (by simp_all)], by omega, ⟨hk195, hv197⟩, hB198⟩
                            | exact Ends.ok _ (by rw [hT, show x = 40 from u8_eq (by assumption), tokC40]; exact hra) rfl ⟨_, hkr, hkl, ⟨hk195, hv197⟩, hB198⟩
                            | exact Ends.ok _ (by rw [hT, show x = 60 from u8_eq (by assumption), tokC60, ← show x = 60 from u8_eq (by assumption)]; exact hra) rfl ⟨_, hkr, hkl, ⟨hk195, hv197⟩, hB198⟩
                            | exact Ends.ok _ (by rw [hT, show x = 62 from u8_eq (by assumption), tokC62, ← show x = 62 from u8_eq (by assumption)]; exact hra) rfl ⟨_, hkr, hkl, ⟨hk195, hv197⟩, hB198⟩
                            | exact Ends.ok (⟨7, 0, []⟩, l.drop (s + 1)) (by rw [hT, show x = 123 from u8_eq (by assumption), tokC123]) rfl ⟨_, rfl, by omega, ⟨hk195, hv197⟩, hB198⟩
                            | exact Ends.ok (⟨8, 0, []⟩, l.drop (s + 1)) (by rw [hT, show x = 125 from u8_eq (by assumption), tokC125]) rfl ⟨_, rfl, by omega, ⟨hk195, hv197⟩, hB198⟩
                            | exact Ends.ok (⟨3, 0, [x]⟩, l.drop (s + 1)) (by rw [hT, show x = 91 from u8_eq (by assumption), tokC91]) rfl ⟨_, rfl, by omega, ⟨hk195, hv197⟩, hB198⟩
                            | exact Ends.ok (⟨3, 0, [x]⟩, l.drop (s + 1)) (by rw [hT, show x = 93 from u8_eq (by assumption), tokC93]) rfl ⟨_, rfl, by omega, ⟨hk195, hv197⟩, hB198⟩
                            | exact Ends.ok _ (by rw [hT, show x = 47 from u8_eq (by assumption), tokC47]; exact hra) rfl ⟨_, hkr, hkl, ⟨hk195, hv197⟩, hB198⟩
                            | exact Ends.ok (⟨T.kind, T.n, []⟩, l.drop (wordAt l s)) (by rw [hX, if_neg (fun h => h (by assumption)), if_pos (by assumption)]) rfl ⟨_, rfl, hwl.2, ⟨hk195, hv197⟩, hB198⟩
                            | exact Ends.ok (_, l.drop (wordAt l s)) (by rw [hX, if_neg (fun h => h (by assumption)), if_neg (bF (by assumption)), nameS_ok hra, word_drop]) rfl ⟨_, rfl, hwl.2, ⟨hk195, hv197⟩, hB198⟩

end Go.Proofs.YteaohajihhpnmaaDoor
