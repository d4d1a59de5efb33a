/-
  Stacks: the law StackRolls, walked.
-/
import Derived.Test.YtnjalolknhepdaaStkP
import Derived.Test.YtnjalolknhepdaaStkD
namespace Go.Proofs.Ytnjalolknhepdaa
open Go.RowKit

theorem law_Rolls_long (p : Option Addr) (l : List ObjV) (c n : Nat) (j : Int) (w : World) (hl : 200 < l.length) :
    Calls Try.prog 4 #[.slice p l.length c, .int .u8 n, .int .i32 j] w fun e w' => e = .returned (.bool true) ∧ Below w.heap.size w w' := by
  refine W.enter Try.func4 rfl Try.ntmps4 (Nat.le_of_ble_eq_true rfl) ?_
  have hB0 := Below.refl (w.heap.size) w
  refine W.seq ?_
  refine W.reg ?_ -- 0
  refine WL.p (.as rfl) rfl <| WL.nil <| ?_
  refine W.seq ?_
  refine W.reg ?_ -- 1
  refine WL.call hb12 rfl rfl ((stk_New 1000 1 2 _)) (fun v w1 hw1 => ?_)
  have hB2 := btr hB0 hw1.1
  obtain ⟨b, rfl, -⟩ := hw1.2
  refine WL.p (.as rfl) rfl <| WL.nil <| ?_
  refine W.seq ?_
  refine W.seq ?_
  refine W.reg ?_ -- 2
  refine WL.c1 hb13 rfl rfl ((law_answers _)) (fun w3 hw3 => ?_)
  have hB4 := btr hB2 hw3
  refine WL.p (.not rfl) rfl <| WL.p (.mv rfl) rfl <| WL.gy rfl rfl rfl rfl <| WL.p (.mv rfl) rfl <| WL.gy rfl rfl rfl rfl <| WL.p (.lenS Try.underlying25 rfl) rfl <| WL.gy rfl rfl rfl rfl <| WL.p (.gtr rfl rfl) rfl <| WL.p (.pkF rfl rfl rfl) rfl <| WL.p (.mv rfl) rfl <| WL.gd rfl rfl rfl (fun g5 => ?_) (fun g5 => ?_)
  · have g5' := of_decide_eq_false g5
    have h200 := of_decide_eq_false (by assumption); omega
  · have g5' := of_decide_eq_true g5
    refine WL.gn rfl rfl rfl g5 <| WL.gn rfl rfl rfl g5 <| WL.gn rfl rfl rfl g5 <| WL.gn rfl rfl rfl g5 <| WL.gn rfl rfl rfl g5 <| WL.p (.pkT rfl g5 rfl) rfl <| WL.nil <| ?_
    refine W.condT rfl rfl ?_
    refine W.seq ?_
    refine W.reg ?_ -- 3
    refine WL.c1 hb13 rfl rfl ((law_answers _)) (fun w6 hw6 => ?_)
    have hB7 := btr hB4 hw6
    refine WL.p (.mv rfl) rfl <| WL.gy rfl rfl rfl rfl <| WL.p (.mv rfl) rfl <| WL.gy rfl rfl rfl rfl <| WL.p (.lenS Try.underlying25 rfl) rfl <| WL.gy rfl rfl rfl rfl <| WL.p (.gtr rfl rfl) rfl <| WL.p (.pkT rfl rfl rfl) rfl <| WL.p (.as rfl) rfl <| WL.nil <| ?_
    refine W.ret (W.ret1 rfl rfl ?_)
    exact ⟨rbE (decide_eq_true (by omega)), hB7⟩

theorem StackOk.below {w w1 : World} {b : Nat} {v : Value} {most ov un : Int} {l : List ObjV} (h : StackOk w b v most ov un l) (hb : Below w.heap.size w w1) : StackOk w1 b v most ov un l := ⟨h.blk.below hb h.blk.lt, h.own.below hb⟩
theorem roll_ok (b : Nat) (v : Value) (l : List ObjV) (k : Nat) (r : Int) (w : World) (h : StackOk w b v 1000 1 2 l) (hk : k ≤ l.length) (hr : -9223372036854775808 ≤ r ∧ r ≤ 9223372036854775807) (hl : l.length ≤ 10000000) :
    Calls Try.prog 15 #[.pointer (some ⟨b, 0, none⟩), .int .i64 (k : Int), .int .i64 r] w fun e w' => e = .returned (.int .i64 0) ∧ StackOk w' b v 1000 1 2 (rollL k r l) ∧ Below b w w' := by
  have hce : checkE (k : Int) l 2 = 0 := by unfold checkE; rw [if_neg (by omega), if_neg (by omega)]
  refine (stk_Roll b v 1000 1 2 l k r w h (by omega) hr hl (by decide)).mono fun e w' ⟨h1, h2, h3⟩ => ⟨by rw [h1, hce], ?_, KeepB.below h3 (by have := h.blk.lt; omega) (stk_S h.own (Nat.le_refl _))⟩
  unfold rollO at h2
  rw [if_pos hce, Int.toNat_natCast] at h2
  exact h2
theorem law_Rolls_short (p : Option Addr) (l : List ObjV) (c n : Nat) (j : Int) (w : World) (hl : l.length ≤ 200) (hrow : RowM objL w p l) (hnil : l = [] → c = 0 ∨ p ≠ none) (hn : n ≤ 255) (hj : -2147483648 ≤ j ∧ j ≤ 2147483647) :
    Calls Try.prog 4 #[.slice p l.length c, .int .u8 n, .int .i32 j] w fun e w' => e = .returned (.bool true) ∧ Below w.heap.size w w' := by
  have he : pushE 1000 1 [] ([] ++ l) = 0 := by unfold pushE; rw [if_neg (by simp only [List.length_nil, List.length_append]; omega)]
  have hp : pushL 1000 [] ([] ++ l) = l := by unfold pushL; rw [if_neg (by simp only [List.length_nil, List.length_append]; omega)]; rfl
  refine W.enter Try.func4 rfl Try.ntmps4 (Nat.le_of_ble_eq_true rfl) ?_
  have hB0 := Below.refl (w.heap.size) w
  refine W.seq ?_
  refine W.reg ?_ -- 0
  refine WL.p (.as rfl) rfl <| WL.nil <| ?_
  refine W.seq ?_
  refine W.reg ?_ -- 1
  refine WL.call hb12 rfl rfl ((stk_New 1000 1 2 _)) (fun v w1 hw1 => ?_)
  have hB2 := btr hB0 hw1.1
  obtain ⟨b, rfl, hb0, hb1, hok⟩ := hw1.2
  have hkb := hok.blk
  have hon := hok.own
  have hlb := Nat.succ_le_of_lt hb1
  refine WL.p (.as rfl) rfl <| WL.nil <| ?_
  refine W.seq ?_
  refine W.seq ?_
  refine W.reg ?_ -- 2
  refine WL.c1 hb13 rfl rfl ((law_answers _)) (fun w3 hw3 => ?_)
  have ho4 := OwnM.below hon hw3
  have hk5 := hkb.below hw3 hkb.lt
  have hB6 := btr hB2 hw3
  have hva := hrow.below (btr hB2 hw3) (fun h0 => hrow.lt h0)
  refine WL.p (.not rfl) rfl <| WL.p (.mv rfl) rfl <| WL.gy rfl rfl rfl rfl <| WL.p (.mv rfl) rfl <| WL.gy rfl rfl rfl rfl <| WL.p (.lenS Try.underlying25 rfl) rfl <| WL.gy rfl rfl rfl rfl <| WL.p (.gtr rfl rfl) rfl <| WL.p (.pkF rfl rfl rfl) rfl <| WL.p (.mv rfl) rfl <| WL.gd rfl rfl rfl (fun g7 => ?_) (fun g7 => ?_)
  · have g7' := of_decide_eq_false g7
    refine WL.p (.mv rfl) rfl <| WL.gy rfl rfl rfl g7 <| WL.bsl0 Try.underlying25 Try.sizeOf39 rfl (fun b8 wb8 eb8 hob8 hub8 hsb8 => ?_)
    have ho9 := OwnM.new ho4 eb8 hub8
    have hl11 : b < b8 := by rw [eb8]; exact hk5.lt
    have hk10 := hk5.upd hub8 (Nat.ne_of_lt hl11)
    have hvl13 := fun h0 => eb8 ▸ hva.lt h0
    have hv12 := RowM.upd hva hub8 (fun h0 => Nat.ne_of_lt (hvl13 h0))
    have hB14 := Upd.below hB6 (by rw [eb8]; exact hB6.size) hub8
    have hgeb8 : w.heap.size ≤ b8 := by rw [eb8]; exact hB6.size
    have hob8 := OwnM.of (L := objL) (l := []) (hob8 b8 (Nat.le_refl _))
    have hleb8 : b8 ≤ wb8.heap.size := by omega
    refine WL.gy rfl rfl rfl g7 <| WL.p (.mv rfl) rfl <| WL.gy rfl rfl rfl g7 <| WL.appM Try.underlying25 inf39 rfl rfl rfl hob8 rfl hv12 (by simp only [List.length_nil]; omega) (hleb8) rfl (hnil) (fun v15 w16 how16 hbw16 hgw16 hfw16 => ?_)
    have hk17 := hk10.below hbw16 (by omega)
    have ho18 := OwnM.same ho9 (fun g hg => hgw16.block g ((ho9).lt g hg).2 (fun hx => by first | (cases hg; done) | (cases hx; done) | (have h1 := (ho9).lt g hg; have h2 := (hob8).lt g hx.symm; omega)))
    have hv19 := RowM.below hv12 hbw16 hvl13
    have hB20 := Below.trans hB14 (hbw16.mono (hgeb8))
    have hle21 := Nat.le_trans hleb8 hbw16.size
    refine WL.gy rfl rfl rfl g7 <| ?_
    obtain ⟨pv, cv, rfl, hrv, -, -, hnv, -⟩ := (how16).row
    refine WL.call hb14 rfl rfl ((stk_Push b _ 1000 1 2 [] pv ([] ++ l) cv _ ⟨hk17, OwnM.nil _ _ _ _⟩ hrv hnv (by decide) (by simp only [List.length_nil, List.length_append]; omega))) (fun r w22 hw22 => ?_)
    obtain ⟨hr, v2, hs2, hk2⟩ := hw22
    rw [he] at hr
    subst hr
    rw [hp] at hs2
    have hB2 := Below.trans hB20 (KeepB.below hk2.1 hB20.size (stk_S (OwnM.nil _ _ _ w16) hb0))
    have hkb2 := hs2.blk
    have hon2 := hs2.own
    have hlb2 := Nat.succ_le_of_lt hkb2.lt
    refine WL.gy rfl rfl rfl g7 <| WL.p (.neq rfl rfl) rfl <| WL.p (.pkF rfl g7 rfl) rfl <| WL.nil <| ?_
    refine W.condF rfl rfl ?_
    refine W.skip ?_
    refine W.seq ?_
    refine W.reg ?_ -- 4
    refine WL.p (.as rfl) rfl <| WL.nil <| ?_
    refine W.cut (α := Nat) (fun t => [(0, .slice p l.length c), (2, .int .i32 j), (7, .pointer (some ⟨b, 0, none⟩)), (8, .int .i64 (t : Int))]) (fun t w' => w22 = w' ∧ t ≤ l.length) ?_ (fun t w1 hR => ?_)
    · skip
      refine W.seq ?_
      refine W.reg ?_ -- 5
      refine WL.p (.mv rfl) rfl <| WL.p (.lenS Try.underlying25 rfl) rfl <| WL.p (.gtr rfl rfl) rfl <| WL.nil <| ?_
      refine W.cond rfl (fun h23 => ?_) (fun h23 => ?_) -- slot 34
      · have h23' := of_decide_eq_true h23
        refine W.reg ?_ -- 6
        refine WL.p (.mv rfl) rfl <| WL.p (.cvt Try.underlying5 Try.underlying3 rfl (i64w (by omega))) rfl <| WL.p (.mv rfl) rfl <| WL.p (.lenS Try.underlying25 rfl) rfl <| WL.p (.add rfl rfl (i64w (by omega))) rfl <| WL.p (.iis (((n % (l.length + 1) : Nat) : Int)) (.rem rfl rfl (by omega) (Int.tmod_eq_emod_of_nonneg (by omega))) (by first | rfl | simp)) rfl <| WL.p (.as rfl) rfl <| WL.nil <| ?_
        first
        | exact ⟨n % (l.length + 1), ⟨rfl, rfl, rfl, rfl, trivial⟩, rfl, Nat.le_of_lt_succ (Nat.mod_lt _ (Nat.succ_pos _))⟩
        | exact ⟨0, ⟨rfl, rfl, rfl, rfl, trivial⟩, rfl, Nat.zero_le _⟩
      · have h23' := of_decide_eq_false h23
        refine W.skip ?_
        first
        | exact ⟨n % (l.length + 1), ⟨rfl, rfl, rfl, rfl, trivial⟩, rfl, Nat.le_of_lt_succ (Nat.mod_lt _ (Nat.succ_pos _))⟩
        | exact ⟨0, ⟨rfl, rfl, rfl, rfl, trivial⟩, rfl, Nat.zero_le _⟩
    obtain ⟨K, rfl⟩ : ∃ K, K = t := ⟨t, rfl⟩
    obtain ⟨rfl, hK⟩ := hR
    have hlj := rollL_len K j l
    refine W.seq ?_
    refine W.seq ?_
    refine W.reg ?_ -- 7
    refine WL.p (.mv rfl) rfl <| WL.p (.mv rfl) rfl <| WL.p (.mv rfl) rfl <| WL.p (.cvt Try.underlying21 Try.underlying3 rfl (i64w (by omega))) rfl <| WL.c1 hb15 rfl rfl ((roll_ok b _ l K j _ hs2 hK (by omega) (by omega))) (fun w24 hw24 => ?_)
    obtain ⟨hs3, hb3⟩ := hw24
    have hB3 := Below.trans hB2 (hb3.mono hb0)
    refine WL.p (.neq rfl rfl) rfl <| WL.p (.mv rfl) rfl <| WL.gy rfl rfl rfl rfl <| WL.p (.mv rfl) rfl <| WL.gy rfl rfl rfl rfl <| WL.p (.mv rfl) rfl <| WL.gy rfl rfl rfl rfl <| WL.p (.mv rfl) rfl <| WL.gy rfl rfl rfl rfl <| WL.p (.cvt Try.underlying21 Try.underlying3 rfl (i64w (by omega))) rfl <| WL.gy rfl rfl rfl rfl <| WL.p (.neg rfl (i64w (by omega))) rfl <| WL.gy rfl rfl rfl rfl <| WL.c1 hb15 rfl rfl ((roll_ok b _ (rollL K j l) K (-j) _ hs3 (by omega) (by omega) (by omega))) (fun w25 hw25 => ?_)
    obtain ⟨hs4, hb4⟩ := hw25
    rw [rollL_comp K j (-j) l hK, Int.add_right_neg, rollL_zero] at hs4
    have hB4 := Below.trans hB3 (hb4.mono hb0)
    refine WL.gy rfl rfl rfl rfl <| WL.p (.neq rfl rfl) rfl <| WL.p (.pkF rfl rfl rfl) rfl <| WL.p (.mv rfl) rfl <| WL.gy rfl rfl rfl rfl <| WL.p (.mv rfl) rfl <| WL.gy rfl rfl rfl rfl <| WL.call hb17 rfl rfl ((stk_All b _ 1000 1 2 l _ hs4 (by omega))) (fun v5 w26 hw26 => ?_)
    have hB27 := btr hB4 hw26.1
    obtain ⟨q5, c5, rfl, hr5, -⟩ := (hw26.2).row
    have hs5 := hs4.below hw26.1
    refine WL.gy rfl rfl rfl rfl <| WL.p (.mv rfl) rfl <| WL.gy rfl rfl rfl rfl <| WL.c1 hb16 rfl rfl ((law_same q5 p c5 c l _ hr5 (hrow.below hB27 (fun h0 => hrow.lt h0)) (by omega))) (fun w28 hw28 => ?_)
    have hB29 := Drew.below hB27 hw28
    have hs6 := hs5.drew hw28
    refine WL.gy rfl rfl rfl rfl <| WL.p (.not rfl) rfl <| WL.p (.pkF rfl rfl rfl) rfl <| WL.nil <| ?_
    refine W.condF rfl rfl ?_
    refine W.skip ?_
    refine W.seq ?_
    refine W.seq ?_
    refine W.reg ?_ -- 9
    refine WL.p (.as rfl) rfl <| WL.nil <| ?_
    refine W.block ?_
    -- loop 1: writes [6, 9, 63, 64, 65, 66, 67, 68, 69, 70, 71]; reads from outside [7, 8, 9]
    refine W.loop (α := Nat) (fun t => [(0, .slice p l.length c), (7, .pointer (some ⟨b, 0, none⟩)), (8, .int .i64 (K : Int)), (9, .int .i64 (t : Int))]) (fun t w' => Below w.heap.size w w' ∧ StackOk w' b v2 1000 1 2 (rollL K t l) ∧ t ≤ K) (fun t => K - t) (0) ⟨rfl, rfl, rfl, rfl, trivial⟩ (⟨hB29, by rw [show ((0 : Nat) : Int) = 0 from rfl, rollL_zero]; exact hs6, Nat.zero_le _⟩) (fun t w1 hR => ?_)
    obtain ⟨s, rfl⟩ : ∃ s, s = t := ⟨t, rfl⟩
    obtain ⟨hT, hs7, hs⟩ := hR
    have hlk := rollL_len K s l
    refine W.seq ?_
    refine W.seq ?_
    refine W.reg ?_ -- 10
    refine WL.p (.mv rfl) rfl <| WL.p (.mv rfl) rfl <| WL.p (.lss rfl rfl) rfl <| WL.nil <| ?_
    refine W.cond rfl (fun h30 => ?_) (fun h30 => ?_) -- slot 65
    · have h30' := of_decide_eq_true h30
      refine W.skip ?_
      refine W.seq ?_
      refine W.block ?_
      refine W.seq ?_
      refine W.reg ?_ -- 12
      refine WL.p (.mv rfl) rfl <| WL.p (.mv rfl) rfl <| WL.c1 hb15 rfl rfl ((roll_ok b _ (rollL K s l) K 1 _ hs7 (by omega) (by omega) (by omega))) (fun w31 hw31 => ?_)
      obtain ⟨hs8, hb8⟩ := hw31
      rw [rollL_comp K s 1 l hK] at hs8
      have hB8 := Below.trans hT (hb8.mono hb0)
      refine WL.p (.neq rfl rfl) rfl <| WL.nil <| ?_
      refine W.condF rfl rfl ?_
      refine W.skip ?_
      refine W.reg ?_ -- 11
      refine WL.p (.mv rfl) rfl <| WL.p (.iis (((s + 1 : Nat) : Int)) (.add rfl rfl (i64w (by omega))) (by omega)) rfl <| WL.p (.as rfl) rfl <| WL.nil <| ?_
      exact ⟨s + 1, ⟨rfl, rfl, rfl, rfl, trivial⟩, ⟨hB8, hs8, by ((try simp only) <;> omega)⟩, by ((try simp only) <;> omega)⟩
    · have h30' := of_decide_eq_false h30
      refine W.exit ?_ -- 0
      refine W.seq ?_
      obtain rfl : s = K := by omega
      rw [rollL_self] at hs7
      refine W.reg ?_ -- 14
      refine WL.p (.mv rfl) rfl <| WL.call hb17 rfl rfl ((stk_All b _ 1000 1 2 l _ hs7 (by omega))) (fun v9 w32 hw32 => ?_)
      have hB33 := btr hT hw32.1
      obtain ⟨q9, c9, rfl, hr9, -⟩ := (hw32.2).row
      refine WL.p (.mv rfl) rfl <| WL.c1 hb16 rfl rfl ((law_same q9 p c9 c l _ hr9 (hrow.below hB33 (fun h0 => hrow.lt h0)) (by omega))) (fun w34 hw34 => ?_)
      have hB35 := Drew.below hB33 hw34
      refine WL.p (.as rfl) rfl <| WL.nil <| ?_
      refine W.ret (W.ret1 rfl rfl ?_)
      exact ⟨rfl, hB35⟩
  · have g7' := of_decide_eq_true g7
    omega

end Go.Proofs.Ytnjalolknhepdaa
