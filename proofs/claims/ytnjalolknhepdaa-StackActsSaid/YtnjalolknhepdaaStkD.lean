/-
  Stacks: the law StackRolls.
-/
import Derived.Test.YtnjalolknhepdaaStkC
namespace Go.Proofs.Ytnjalolknhepdaa
open Go.RowKit

theorem law_same (p q : Option Addr) (c d : Nat) (l : List ObjV) (w : World) (hra : RowM objL w p l) (hrb : RowM objL w q l) (hl : l.length ≤ 10000000) :
    Calls Try.prog 16 #[.slice p l.length c, .slice q l.length d] w fun e w' => e = .returned (.bool true) ∧ Drew w w' := by
  refine W.enter Try.func16 rfl Try.ntmps16 (Nat.le_of_ble_eq_true rfl) ?_
  refine W.seq ?_
  refine W.reg ?_ -- 0
  refine WL.p (.as rfl) rfl <| WL.nil <| ?_
  refine W.seq ?_
  refine W.seq ?_
  refine W.reg ?_ -- 1
  refine WL.p (.mv rfl) rfl <| WL.p (.lenS Try.underlying25 rfl) rfl <| WL.p (.mv rfl) rfl <| WL.p (.lenS Try.underlying25 rfl) rfl <| WL.p (.neq rfl rfl) rfl <| WL.nil <| ?_
  refine W.cond rfl (fun h1 => ?_) (fun h1 => ?_) -- slot 10
  · have h1' := ndT h1
    exact absurd rfl (ndT (by assumption))
  · have h1' := ndF h1
    refine W.skip ?_
    refine W.seq ?_
    refine W.seq ?_
    refine W.reg ?_ -- 3
    refine WL.p (.as rfl) rfl <| WL.nil <| ?_
    refine W.block ?_
    -- loop 1: writes [4, 5, 11, 12, 13, 14, 15, 16, 17, 18, 19, 20, 21, 22, 23, 24, 25]; reads from outside [0, 1, 5]
    refine W.loop (α := Nat) (fun t => [(0, .slice p l.length c), (1, .slice q l.length d), (5, .int .i64 (t : Int))]) (fun t w' => Drew w w' ∧ t ≤ l.length) (fun t => l.length - t) (0) ⟨rfl, rfl, rfl, trivial⟩ (⟨Drew.refl _, Nat.zero_le _⟩) (fun t w1 hR => ?_)
    obtain ⟨s, rfl⟩ : ∃ s, s = t := ⟨t, rfl⟩
    obtain ⟨hd, hs⟩ := hR
    have ha := hra.drew hd
    have hb := hrb.drew hd
    refine W.seq ?_
    refine W.seq ?_
    refine W.reg ?_ -- 4
    refine WL.p (.mv rfl) rfl <| WL.p (.mv rfl) rfl <| WL.p (.lenS Try.underlying25 rfl) rfl <| WL.p (.lss rfl rfl) rfl <| WL.nil <| ?_
    refine W.cond rfl (fun h2 => ?_) (fun h2 => ?_) -- slot 14
    · have h2' := of_decide_eq_true h2
      refine W.skip ?_
      refine W.seq ?_
      refine W.block ?_
      refine W.seq ?_
      refine W.regQ mixed (by kernel_rfl) ?_ -- 6
      refine WQ.p (.mv rfl) rfl <| WQ.p (.mv rfl) rfl <| WQ.p (.ixm Try.underlying25 Try.sizeOf39 rfl rfl (ha.isp (by omega)) (s) (by omega) (by omega)) rfl <| WQ.r (fun m => Rd.ldS Try.underlying39 rfl isz39 (ha.drewN m) (s) (by omega) rfl) rfl <| WQ.p (.mv rfl) rfl <| WQ.p (.mv rfl) rfl <| WQ.p (.ixm Try.underlying25 Try.sizeOf39 rfl rfl (hb.isp (by omega)) (s) (by omega) (by omega)) rfl <| WQ.r (fun m => Rd.ldS Try.underlying39 rfl isz39 (hb.drewN m) (s) (by omega) rfl) rfl <| WQ.p (.neAgg rfl rfl eg39 (neA39 _ _ _ _ _ _ _ _ _ _ _ _ _ _ _ _)) rfl <| WQ.nil (fun w3 dw3 => ?_)
      have hv4 := ha.drew dw3
      have hv5 := hb.drew dw3
      refine W.cond rfl (fun h6 => ?_) (fun h6 => ?_) -- slot 25
      · have h6' := ndT h6
        simp_all
      · have h6' := ndF h6
        refine W.skip ?_
        refine W.reg ?_ -- 5
        refine WL.p (.mv rfl) rfl <| WL.p (.iis (((s + 1 : Nat) : Int)) (.add rfl rfl (i64w (by omega))) (by omega)) rfl <| WL.p (.as rfl) rfl <| WL.nil <| ?_
        exact ⟨s + 1, ⟨rfl, rfl, rfl, trivial⟩, ⟨hd.trans (by assumption), by ((try simp only) <;> omega)⟩, by ((try simp only) <;> omega)⟩
    · have h2' := of_decide_eq_false h2
      refine W.exit ?_ -- 0
      refine W.seq ?_
      refine W.reg ?_ -- 8
      refine WL.p (.as rfl) rfl <| WL.nil <| ?_
      refine W.ret (W.ret1 rfl rfl ?_)
      exact ⟨rfl, hd⟩

theorem stk_S {b C : Nat} {w : World} {v : Value} {l : List ObjV} (h : OwnM objL 39 (b + 1) w v l) (hb : C ≤ b) : ∀ k ∈ b :: v.ownBlock.toList, C ≤ k := by
  intro k hk
  rcases List.mem_cons.1 hk with rfl | hk
  · exact hb
  · have := (h.lt k (Option.mem_toList.1 hk)).1; omega
def objZ : ObjV := ⟨0, false, 0, 0, [], 0, 0, 0⟩
theorem law_answers (w : World) : Calls Try.prog 13 #[] w fun e w' => e = .returned (.bool true) ∧ Below w.heap.size w w' := by
  refine W.enter Try.func13 rfl Try.ntmps13 (Nat.le_of_ble_eq_true rfl) ?_
  have hB0 := Below.refl (w.heap.size) w
  refine W.seq ?_
  refine W.reg ?_ -- 0
  refine WL.p (.as rfl) rfl <| WL.nil <| ?_
  refine W.seq ?_
  refine W.reg ?_ -- 1
  refine WL.call hb12 rfl rfl ((stk_New 2 5 6 _)) (fun v w1 hw1 => ?_)
  have hB2 := btr hB0 hw1.1
  obtain ⟨b, rfl, hb0, hb1, hok⟩ := hw1.2
  have hkb := hok.blk
  have hon := hok.own
  have hlb := Nat.succ_le_of_lt hb1
  refine WL.p (.as rfl) rfl <| WL.nil <| ?_
  refine W.seq ?_
  refine W.reg ?_ -- 2
  refine WL.p (.mv rfl) rfl <| ?_
  refine WL.p (.buildL (ps := _) blt39 rfl rfl rfl (by simp only [put1, List.map, List.zip, List.zipWith, List.set] <;> rfl)) rfl ?_
  refine WL.bslM (L := objL) (ps := _) ([⟨1, false, 0, 7, [], 0, 0, 0⟩]) Try.underlying25 Try.sizeOf39 Try.zeroValue39 rfl rfl rfl rfl rfl (by first | rfl | decide) rfl rfl (fun b3 wb3 eb3 hob3 hub3 hsb3 => ?_)
  have ho4 := OwnM.new hon eb3 hub3
  have hl6 : b < b3 := by rw [eb3]; exact hkb.lt
  have hk5 := hkb.upd hub3 (Nat.ne_of_lt hl6)
  have hB7 := Upd.below hB2 (by rw [eb3]; exact hB2.size) hub3
  have hgeb3 : w.heap.size ≤ b3 := by rw [eb3]; exact hB2.size
  have hleb3 : b3 ≤ wb3.heap.size := by omega
  refine WL.call hb14 rfl rfl ((stk_Push b _ 2 5 6 [] _ [⟨1, false, 0, 7, [], 0, 0, 0⟩] 1 _ ⟨hk5, ho4⟩ (hob3).rowp (fun h => nomatch h) (by decide) (by decide))) (fun r w8 hw8 => ?_)
  obtain ⟨rfl, v2, hs2, hk2⟩ := hw8
  have hB2 := Below.trans hB7 (KeepB.below hk2.1 hB7.size (stk_S ho4 hb0))
  have hkb2 := hs2.blk
  have hon2 := hs2.own
  have hlb2 := Nat.succ_le_of_lt hkb2.lt
  refine WL.p (.eql rfl rfl) rfl <| WL.p (.mv rfl) rfl <| WL.gy rfl rfl rfl rfl <| WL.p (.mv rfl) rfl <| WL.gy rfl rfl rfl rfl <| WL.c1 hb26 rfl rfl ((stk_Len b _ 2 5 6 _ _ ⟨hkb2, hon2⟩)) (fun w9 hw9 => ?_)
  obtain rfl := hw9
  refine WL.gy rfl rfl rfl rfl <| WL.p (.eql rfl rfl) rfl <| WL.p (.pkT rfl rfl rfl) rfl <| WL.p (.mv rfl) rfl <| WL.gy rfl rfl rfl rfl <| WL.p (.mv rfl) rfl <| WL.gy rfl rfl rfl rfl <| ?_
  refine WL.p (.buildL (ps := _) blt39 rfl rfl rfl (by simp only [put1, List.map, List.zip, List.zipWith] <;> rfl)) rfl ?_
  refine WL.gy rfl rfl rfl rfl <| ?_
  refine WL.p (.buildL (ps := _) blt39 rfl rfl rfl (by simp only [put1, List.map, List.zip, List.zipWith] <;> rfl)) rfl ?_
  refine WL.gy rfl rfl rfl rfl <| WL.bslM (L := objL) (ps := _) ([objZ, objZ]) Try.underlying25 Try.sizeOf39 Try.zeroValue39 rfl rfl rfl rfl rfl (by first | rfl | decide) rfl rfl (fun b10 wb10 eb10 hob10 hub10 hsb10 => ?_)
  have ho11 := OwnM.new hon2 eb10 hub10
  have hl13 : b < b10 := by rw [eb10]; exact hkb2.lt
  have hk12 := hkb2.upd hub10 (Nat.ne_of_lt hl13)
  have hB14 := Upd.below hB2 (by rw [eb10]; exact hB2.size) hub10
  have hgeb10 : w.heap.size ≤ b10 := by rw [eb10]; exact hB2.size
  have hleb10 : b10 ≤ wb10.heap.size := by omega
  refine WL.gy rfl rfl rfl rfl <| WL.call hb14 rfl rfl ((stk_Push b _ 2 5 6 _ _ [objZ, objZ] 2 _ ⟨hk12, ho11⟩ (hob10).rowp (fun h => nomatch h) (by decide) (by decide))) (fun r w15 hw15 => ?_)
  obtain ⟨rfl, v3, hs3, hk3⟩ := hw15
  have hB3 := Below.trans hB14 (KeepB.below hk3.1 hB14.size (stk_S ho11 hb0))
  have hkb3 := hs3.blk
  refine WL.gy rfl rfl rfl rfl <| WL.p (.eql rfl rfl) rfl <| WL.p (.pkT rfl rfl rfl) rfl <| WL.p (.as rfl) rfl <| WL.nil <| ?_
  refine W.ret (W.ret1 rfl rfl ?_)
  exact ⟨rvE rfl, hB3⟩

end Go.Proofs.Ytnjalolknhepdaa
