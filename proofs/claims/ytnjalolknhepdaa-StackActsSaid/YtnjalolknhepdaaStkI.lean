/-
  Stacks: fits, Need.
-/
import Derived.Test.YtnjalolknhepdaaStkD
import Derived.Test.YtnjalolknhepdaaOpn
namespace Go.Proofs.Ytnjalolknhepdaa
open Go.RowKit

def fitO (o : ObjV) (k : Int) : Bool := if k = -2 then true else if k = -1 then decide (o.kind = 1 ∨ o.kind = 2) else if k = -3 then decide (o.kind = 6 ∨ o.kind = 7) else if k = -4 then decide (o.kind = 7) && o.exec else decide (o.kind = k)
theorem stk_fits (o : ObjV) (k : Int) (w : World) :
    Calls Try.prog 34 #[.agg (objV o).toArray, .int .i64 k] w fun e w' => e = .returned (.bool (fitO o k)) ∧ Below w.heap.size w w' := by
  refine W.enter Try.func34 rfl Try.ntmps34 (Nat.le_of_ble_eq_true rfl) ?_
  have hB0 := Below.refl (w.heap.size) w
  refine W.seq ?_
  refine W.reg ?_ -- 0
  refine WL.box rfl rfl (fun b1 wb1 eb1 hkb1 hub1 hsb1 => ?_)
  have hB2 := Upd.below hB0 (by rw [eb1]; exact hB0.size) hub1
  have hgeb1 : w.heap.size ≤ b1 := by rw [eb1]; exact hB0.size
  refine WL.p (.as rfl) rfl <| WL.nil <| ?_
  refine W.seq ?_
  refine W.seq ?_
  refine W.reg ?_ -- 1
  refine WL.p (.mv rfl) rfl <| WL.nil <| ?_
  refine W.block ?_
  refine W.seq ?_
  refine W.reg ?_ -- 2
  refine WL.p (.eql rfl rfl) rfl <| WL.p (.as rfl) rfl <| WL.nil <| ?_
  refine W.cond rfl (fun h3 => ?_) (fun h3 => ?_) -- slot 6
  · have h3' := of_decide_eq_true h3
    refine W.seq ?_
    refine W.reg ?_ -- 3
    refine WL.p (.as rfl) rfl <| WL.nil <| ?_
    refine W.ret (W.ret1 rfl rfl ?_)
    exact ⟨rbE (by unfold fitO; simp_all), hB2⟩
  · have h3' := of_decide_eq_false h3
    refine W.seq ?_
    refine W.reg ?_ -- 4
    refine WL.p (.eql rfl rfl) rfl <| WL.p (.as rfl) rfl <| WL.nil <| ?_
    refine W.cond rfl (fun h4 => ?_) (fun h4 => ?_) -- slot 8
    · have h4' := of_decide_eq_true h4
      refine W.seq ?_
      refine W.reg ?_ -- 5
      refine WL.p (.fa Try.underlying39 rfl Try.sizeOf3 (by decide) rfl) rfl <| WL.r (Rd.ld (Try.isAgg3 _) rfl hkb1 rfl) rfl <| WL.p (.eql rfl rfl) rfl <| WL.p (.mv rfl) rfl <| WL.gd rfl rfl rfl (fun g5 => ?_) (fun g5 => ?_)
      · have g5' := of_decide_eq_false g5
        refine WL.p (.fa Try.underlying39 rfl Try.sizeOf3 (by decide) rfl) rfl <| WL.gy rfl rfl rfl g5 <| WL.r (Rd.ld (Try.isAgg3 _) rfl hkb1 rfl) rfl <| WL.gy rfl rfl rfl g5 <| WL.p (.eql rfl rfl) rfl <| WL.p (.pkF rfl g5 rfl) rfl <| WL.p (.as rfl) rfl <| WL.nil <| ?_
        refine W.ret (W.ret1 rfl rfl ?_)
        exact ⟨rbE (by unfold fitO; simp_all), hB2⟩
      · have g5' := of_decide_eq_true g5
        refine WL.gn rfl rfl rfl g5 <| WL.gn rfl rfl rfl g5 <| WL.p (.pkT rfl g5 rfl) rfl <| WL.p (.as rfl) rfl <| WL.nil <| ?_
        refine W.ret (W.ret1 rfl rfl ?_)
        exact ⟨rbE (by unfold fitO; simp_all), hB2⟩
    · have h4' := of_decide_eq_false h4
      refine W.seq ?_
      refine W.reg ?_ -- 6
      refine WL.p (.eql rfl rfl) rfl <| WL.p (.as rfl) rfl <| WL.nil <| ?_
      refine W.cond rfl (fun h6 => ?_) (fun h6 => ?_) -- slot 18
      · have h6' := of_decide_eq_true h6
        refine W.seq ?_
        refine W.reg ?_ -- 7
        refine WL.p (.fa Try.underlying39 rfl Try.sizeOf3 (by decide) rfl) rfl <| WL.r (Rd.ld (Try.isAgg3 _) rfl hkb1 rfl) rfl <| WL.p (.eql rfl rfl) rfl <| WL.p (.mv rfl) rfl <| WL.gd rfl rfl rfl (fun g7 => ?_) (fun g7 => ?_)
        · have g7' := of_decide_eq_false g7
          refine WL.p (.fa Try.underlying39 rfl Try.sizeOf3 (by decide) rfl) rfl <| WL.gy rfl rfl rfl g7 <| WL.r (Rd.ld (Try.isAgg3 _) rfl hkb1 rfl) rfl <| WL.gy rfl rfl rfl g7 <| WL.p (.eql rfl rfl) rfl <| WL.p (.pkF rfl g7 rfl) rfl <| WL.p (.as rfl) rfl <| WL.nil <| ?_
          refine W.ret (W.ret1 rfl rfl ?_)
          exact ⟨rbE (by unfold fitO; simp_all), hB2⟩
        · have g7' := of_decide_eq_true g7
          refine WL.gn rfl rfl rfl g7 <| WL.gn rfl rfl rfl g7 <| WL.p (.pkT rfl g7 rfl) rfl <| WL.p (.as rfl) rfl <| WL.nil <| ?_
          refine W.ret (W.ret1 rfl rfl ?_)
          exact ⟨rbE (by unfold fitO; simp_all), hB2⟩
      · have h6' := of_decide_eq_false h6
        refine W.seq ?_
        refine W.reg ?_ -- 8
        refine WL.p (.eql rfl rfl) rfl <| WL.p (.as rfl) rfl <| WL.nil <| ?_
        refine W.cond rfl (fun h8 => ?_) (fun h8 => ?_) -- slot 28
        · have h8' := of_decide_eq_true h8
          refine W.seq ?_
          refine W.reg ?_ -- 9
          refine WL.p (.fa Try.underlying39 rfl Try.sizeOf3 (by decide) rfl) rfl <| WL.r (Rd.ld (Try.isAgg3 _) rfl hkb1 rfl) rfl <| WL.p (.eql rfl rfl) rfl <| WL.p (.mv rfl) rfl <| WL.gd rfl rfl rfl (fun g9 => ?_) (fun g9 => ?_)
          · have g9' := of_decide_eq_true g9
            refine WL.p (.fa Try.underlying39 rfl Try.sizeOf4 (by decide) rfl) rfl <| WL.gy rfl rfl rfl g9 <| WL.r (Rd.ld (Try.isAgg4 _) rfl hkb1 rfl) rfl <| WL.p (.pkT rfl g9 rfl) rfl <| WL.p (.as rfl) rfl <| WL.nil <| ?_
            refine W.ret (W.ret1 rfl rfl ?_)
            exact ⟨rbE (by unfold fitO; simp_all), hB2⟩
          · have g9' := of_decide_eq_false g9
            refine WL.gn rfl rfl rfl g9 <| WL.p (.pkF rfl g9 rfl) rfl <| WL.p (.as rfl) rfl <| WL.nil <| ?_
            refine W.ret (W.ret1 rfl rfl ?_)
            exact ⟨rbE (by unfold fitO; simp_all), hB2⟩
        · have h8' := of_decide_eq_false h8
          refine W.skip ?_
          refine W.seq ?_
          refine W.reg ?_ -- 10
          refine WL.p (.fa Try.underlying39 rfl Try.sizeOf3 (by decide) rfl) rfl <| WL.r (Rd.ld (Try.isAgg3 _) rfl hkb1 rfl) rfl <| WL.p (.mv rfl) rfl <| WL.p (.eql rfl rfl) rfl <| WL.p (.as rfl) rfl <| WL.nil <| ?_
          refine W.ret (W.ret1 rfl rfl ?_)
          exact ⟨rbE (by unfold fitO; simp_all), hB2⟩


def NeedOk (ks : List Int) (l : List ObjV) (n : Nat) : Prop := ∀ i, i < n → fitO (l.getD (l.length - ks.length + i) objZ) (ks.getD i 0) = true
def NeedIs (ks : List Int) (l : List ObjV) (un e : Int) : Prop :=
  (checkE ks.length l un ≠ 0 ∧ e = checkE ks.length l un) ∨ (checkE ks.length l un = 0 ∧ NeedOk ks l ks.length ∧ e = 0) ∨ (checkE ks.length l un = 0 ∧ ¬ NeedOk ks l ks.length ∧ e = 16)
theorem stk_Need (b : Nat) (v : Value) (most ov un : Int) (l : List ObjV) (p : Option Addr) (ks : List Int) (c : Nat) (w : World) (h : StackOk w b v most ov un l) (hx : RowAt intV w p ks) (hl : l.length ≤ 10000000) (hu : un ≠ 0) :
    Calls Try.prog 24 #[.pointer (some ⟨b, 0, none⟩), .slice p ks.length c] w fun e w' => ∃ r, e = .returned r ∧ Below w.heap.size w w' ∧ ∃ a, r = .int .i64 a ∧ NeedIs ks l un a := by
  obtain ⟨p', c', hv, hrow, -, hlc, -⟩ := h.own.row
  have hown := h.own
  have hr := h.blk
  subst hv
  refine W.enter Try.func24 rfl Try.ntmps24 (Nat.le_of_ble_eq_true rfl) ?_
  have hB0 := Below.refl (w.heap.size) w
  refine W.seq ?_
  refine W.reg ?_ -- 0
  refine WL.p (.as rfl) rfl <| WL.nil <| ?_
  refine W.seq ?_
  refine W.seq ?_
  refine W.reg ?_ -- 1
  refine WL.p (.mv rfl) rfl <| WL.p (.mv rfl) rfl <| WL.p (.lenS Try.underlying35 rfl) rfl <| WL.c1 hb30 rfl rfl ((stk_check b _ most ov un l (ks.length : Int) _ ⟨hr, hown⟩)) (fun w1 hw1 => ?_)
  obtain rfl := hw1
  refine WL.p (.as rfl) rfl <| WL.nil <| ?_
  refine W.seq ?_
  refine W.reg ?_ -- 2
  refine WL.p (.mv rfl) rfl <| WL.p (.neq rfl rfl) rfl <| WL.nil <| ?_
  refine W.cond rfl (fun h2 => ?_) (fun h2 => ?_) -- slot 13
  · have h2' := ndT h2
    refine W.seq ?_
    refine W.reg ?_ -- 3
    refine WL.p (.mv rfl) rfl <| WL.p (.as rfl) rfl <| WL.nil <| ?_
    refine W.ret (W.ret1 rfl rfl ?_)
    first
    | exact ⟨_, rfl, hB0, _, rfl, .inl ⟨by assumption, rfl⟩⟩
    | exact ⟨_, rfl, hB0, _, rfl, .inr (.inr ⟨hce, fun hq => absurd (hfx.symm.trans (hq s (by omega))) (by decide), rfl⟩)⟩
    | exact ⟨_, rfl, hB0, _, rfl, .inr (.inl ⟨hce, fun i hi => hok i (by omega), rfl⟩)⟩
  · have h2' := ndF h2
    have hce : checkE (ks.length : Int) l un = 0 := by assumption
    obtain ⟨-, hnl⟩ := checkE_ok hu hce
    obtain ⟨k, hk⟩ : ∃ k, k = l.length - ks.length := ⟨_, rfl⟩
    have hpart : RowM objL w (pPartM 8 p' c' k) (l.drop k) := hrow.partF (by omega) hlc
    have hdl : (l.drop k).length = ks.length := by rw [List.length_drop]; omega
    refine W.skip ?_
    refine W.seq ?_
    refine W.seq ?_
    refine W.regQ mixed (by kernel_rfl) ?_ -- 4
    refine WQ.p (.mv rfl) rfl <| WQ.p (.nck rfl) rfl <| WQ.p (.fa Try.underlying57 rfl Try.sizeOf25 (by decide) rfl) rfl <| WQ.r (fun m => Rd.ld (Try.isAgg25 _) rfl hr rfl) rfl <| WQ.p (.mv rfl) rfl <| WQ.p (.nck rfl) rfl <| WQ.p (.fa Try.underlying57 rfl Try.sizeOf25 (by decide) rfl) rfl <| WQ.r (fun m => Rd.ld (Try.isAgg25 _) rfl hr rfl) rfl <| WQ.p (.lenS Try.underlying25 rfl) rfl <| WQ.p (.mv rfl) rfl <| WQ.p (.lenS Try.underlying35 rfl) rfl <| WQ.p (.iis ((k : Int)) (.sub rfl rfl (i64w (by omega))) (by omega)) rfl <| WQ.p (.slmF Try.underlying25 Try.sizeOf39 rfl rfl  (k) (rfl) (by omega)) rfl <| WQ.p (.iis ((ks.length : Int)) (.lenS Try.underlying25 rfl) (by omega)) rfl <| WQ.p (.mv rfl) rfl <| WQ.nil (fun w3 dw3 => ?_)
    have hk4 := hr.drew dw3
    have hv5 := hx.drew dw3
    have hB6 := Drew.below hB0 dw3
    refine W.block ?_
    -- loop 1: writes [4, 6, 7, 29, 30, 31, 32, 33, 34, 35, 36, 37, 38, 39, 40, 41]; reads from outside [1, 27, 28, 29]
    refine W.loop (α := Nat) (fun t => [(1, .slice p ks.length c), (27, .slice (pPartM 8 p' c' k) (l.length - k) (c' - k)), (28, .int .i64 (ks.length : Int)), (29, .int .i64 (t : Int))]) (fun t w' => Below w.heap.size w w' ∧ t ≤ ks.length ∧ NeedOk ks l t) (fun t => ks.length - t) (0) ⟨rfl, rfl, rfl, rfl, trivial⟩ (⟨hB6, Nat.zero_le _, fun i hi => by omega⟩) (fun t w1 hR => ?_)
    obtain ⟨s, rfl⟩ : ∃ s, s = t := ⟨t, rfl⟩
    obtain ⟨hT, hs, hok⟩ := hR
    have ha := hpart.below hT (fun h0 => hpart.lt h0)
    have hz := hx.below hT (fun h0 => hx.lt h0)
    have hbb := hr.below hT hr.lt
    refine W.seq ?_
    refine W.reg ?_ -- 5
    refine WL.p (.lss rfl rfl) rfl <| WL.nil <| ?_
    refine W.seq ?_
    refine W.cond rfl (fun h7 => ?_) (fun h7 => ?_) -- slot 30
    · have h7' := of_decide_eq_true h7
      refine W.skip ?_
      refine W.seq ?_
      refine W.block ?_
      refine W.seq ?_
      refine W.reg ?_ -- 6
      refine WL.p (.mv rfl) rfl <| WL.p (.ixm Try.underlying25 Try.sizeOf39 rfl rfl (ha.isp (by omega)) (s) (by omega) (by omega)) rfl <| WL.r (Rd.ldS Try.underlying39 rfl isz39 ha (s) (by omega) rfl) rfl <| WL.alloc Try.zeroValue39 rfl (fun b8 wb8 eb8 hkb8 hub8 hsb8 => ?_)
      have hl10 : b < b8 := by rw [eb8]; exact hbb.lt
      have hk9 := hbb.upd hub8 (Nat.ne_of_lt hl10)
      have hvl12 := fun h0 => eb8 ▸ ha.lt h0
      have hv11 := RowM.upd ha hub8 (fun h0 => Nat.ne_of_lt (hvl12 h0))
      have hvl14 := fun h0 => eb8 ▸ hz.lt h0
      have hv13 := RowAt.upd hz hub8 (fun h0 => Nat.ne_of_lt (hvl14 h0))
      have hB15 := Upd.below hT (by rw [eb8]; exact hT.size) hub8
      have hgeb8 : w.heap.size ≤ b8 := by rw [eb8]; exact hT.size
      refine WL.p (.as rfl) rfl <| WL.stL rfl rfl hkb8 isz39 rfl rfl (fun w16 hkw16 huw16 hsw16 => ?_)
      have hk17 := hk9.upd huw16 (by ((try simp only) <;> omega))
      have hv18 := RowM.upd hv11 huw16 (fun h0 => Nat.ne_of_lt (hvl12 h0))
      have hv19 := RowAt.upd hv13 huw16 (fun h0 => Nat.ne_of_lt (hvl14 h0))
      have hB20 := Upd.below hB15 (by omega) huw16
      refine WL.nil <| ?_
      refine W.seq ?_
      refine W.regT 5 mixed (by kernel_rfl) (fun w21 dw21 => ?_) -- 7
      have hk22 := hk17.drew dw21
      have hk23 := hkw16.drew dw21
      have hv24 := hv18.drew dw21
      have hv25 := hv19.drew dw21
      have hB26 := Drew.below hB20 dw21
      refine WS.r (Rd.ldA rfl hk23 Try.underlying39 rfl isz39) rfl <| WS.p (.mv rfl) rfl <| WS.p (.mv rfl) rfl <| WS.p (.ixb Try.underlying35 Try.sizeOf3 rfl rfl (hv25.isp (by omega)) (s) (by omega) (by omega)) rfl <| WS.r (Rd.ldc (Try.isAgg3 _) rfl (hv25.cells (s) (by omega))) rfl <| WS.nil ?_
      refine WL.c1 hb34 rfl rfl ((stk_fits ((l.drop k)[s]'(by omega)) (ks[s]'(by omega)) _)) (fun w27 hw27 => ?_)
      have hk28 := hk22.below hw27 hk22.lt
      have hk29 := hk23.below hw27 hk23.lt
      have hv30 := RowM.below hv24 hw27 (fun h0 => hv24.lt h0)
      have hv31 := RowAt.below hv25 hw27 (fun h0 => hv25.lt h0)
      have hB32 := btr hB26 hw27
      refine WL.p (.not rfl) rfl <| WL.nil <| ?_
      refine W.cond rfl (fun h33 => ?_) (fun h33 => ?_) -- slot 40
      · have h33' := (nT h33)
        have hfx : fitO (l.getD (l.length - ks.length + s) objZ) (ks.getD s 0) = false := by
          rw [← hk, List.getD_eq_getElem?_getD, List.getElem?_eq_getElem (by omega), List.getD_eq_getElem?_getD, List.getElem?_eq_getElem (by omega)]
          simp_all
        refine W.seq ?_
        refine W.reg ?_ -- 8
        refine WL.p (.as rfl) rfl <| WL.nil <| ?_
        refine W.ret (W.ret1 rfl rfl ?_)
        first
        | exact ⟨_, rfl, hB32, _, rfl, .inl ⟨by assumption, rfl⟩⟩
        | exact ⟨_, rfl, hB32, _, rfl, .inr (.inr ⟨hce, fun hq => absurd (hfx.symm.trans (hq s (by omega))) (by decide), rfl⟩)⟩
        | exact ⟨_, rfl, hB32, _, rfl, .inr (.inl ⟨hce, fun i hi => hok i (by omega), rfl⟩)⟩
      · have h33' := (nF h33)
        have hfx : fitO (l.getD (l.length - ks.length + s) objZ) (ks.getD s 0) = true := by
          rw [← hk, List.getD_eq_getElem?_getD, List.getElem?_eq_getElem (by omega), List.getD_eq_getElem?_getD, List.getElem?_eq_getElem (by omega)]
          simp_all
        refine W.skip ?_
        refine W.reg ?_ -- 9
        refine WL.p (.iis (((s + 1 : Nat) : Int)) (.add rfl rfl (i64w (by omega))) (by omega)) rfl <| WL.p (.mv rfl) rfl <| WL.nil <| ?_
        exact ⟨s + 1, ⟨rfl, rfl, rfl, rfl, trivial⟩, ⟨hB32, by ((try simp only) <;> omega), fun i hi => by
          rcases Nat.lt_or_ge i s with h | h
          · exact hok i h
          · obtain rfl : i = s := by omega
            exact hfx⟩, by ((try simp only) <;> omega)⟩
    · have h7' := of_decide_eq_false h7
      refine W.exit ?_ -- 0
      refine W.seq ?_
      refine W.reg ?_ -- 10
      refine WL.p (.as rfl) rfl <| WL.nil <| ?_
      refine W.ret (W.ret1 rfl rfl ?_)
      first
      | exact ⟨_, rfl, hT, _, rfl, .inl ⟨by assumption, rfl⟩⟩
      | exact ⟨_, rfl, hT, _, rfl, .inr (.inr ⟨hce, fun hq => absurd (hfx.symm.trans (hq s (by omega))) (by decide), rfl⟩)⟩
      | exact ⟨_, rfl, hT, _, rfl, .inr (.inl ⟨hce, fun i hi => hok i (by omega), rfl⟩)⟩

end Go.Proofs.Ytnjalolknhepdaa
