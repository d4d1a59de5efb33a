/-
  Plex: the law PlexPlaces, walked.
-/
import Derived.Test.YtjghbcjnplcleaaGreatDoorPlxC
import Derived.Test.YtjghbcjnplcleaaGreatDoorFwE
namespace Go.Proofs.YtjghbcjnplcleaaGreatDoor
open Go.RowKit

theorem ans_skip : skipAt false [51, 32, 48, 32, 82] 0 = 0 := by decide +kernel
theorem ans_word : plexW true [51, 32, 48, 32, 82] 0 = ⟨8, 3, [51], true, 5⟩ := by kernel_rfl
theorem answers19 (w : World) : Calls Tryz.prog 10 #[] w fun e w' => e = .returned (.bool true) ∧ Below w.heap.size w w' := by
  have hO : ∀ (q : Option Addr) (d : Nat) (w1 : World), BytesAt w1 q [51, 32, 48, 32, 82] → 5 ≤ d → Calls Tryz.prog 18 #[.slice q 5 d, .int .i64 0, .int .i64 0] w1 fun e w' => e = .returned (.tuple #[.agg (pobj 8 3 []).toArray, .int .i64 5, .int .i64 0]) ∧ Below w1.heap.size w1 w' := fun q d w1 h1 h2 => by
    have h := plex_Objw 0 0 q [51, 32, 48, 32, 82] d 0 w1 h1 h2 (by decide) (by decide) ans_skip.symm (by decide) (by decide) (by decide) (by decide) (by decide)
    rw [ans_word] at h
    exact h
  refine W.enter Tryz.func10 rfl Tryz.ntmps10 (Nat.le_of_ble_eq_true rfl) ?_
  have hB0 := Below.refl (w.heap.size) w
  refine W.seq ?_
  refine W.reg ?_ -- 0
  refine WL.p (.as rfl) rfl <| WL.nil <| ?_
  refine W.seq ?_
  refine W.reg ?_ -- 1
  refine WL.bsl (ps := _) Tryz.underlying22 Tryz.sizeOf5 Tryz.zeroValue5 rfl rfl rfl rfl rfl (by simp only [put1, List.map, List.zip, List.zipWith, List.set, List.replicate] <;> rfl) rfl (fun b1 wb1 eb1 hkb1 hub1 hsb1 => ?_)
  have hB2 := Upd.below hB0 (by rw [eb1]; exact hB0.size) hub1
  have hgeb1 : w.heap.size ≤ b1 := by rw [eb1]; exact hB0.size
  refine WL.cvB ([51, 32, 48, 32, 82]) Tryz.underlying22 Tryz.underlying5 rfl hkb1 rfl rfl (fun w3 hs huw3 hsw3 => ?_)
  have hB4 := Upd.below hB2 (by omega) huw3
  refine WL.c1 hb18 rfl rfl ((hO _ _ _ hs (by decide))) (fun w5 hw5 => ?_)
  have hv6 := BytesAt.below hs hw5 (fun h0 => hs.lt h0)
  have hB7 := btr hB4 hw5
  refine WL.p (.mv rfl) rfl <| WL.p (.ext rfl rfl) rfl <| WL.p (.ext rfl rfl) rfl <| WL.p (.ext rfl rfl) rfl <| WL.alloc Tryz.zeroValue31 rfl (fun b8 wb8 eb8 hkb8 hub8 hsb8 => ?_)
  have hvl10 := fun h0 => eb8 ▸ hv6.lt h0
  have hv9 := BytesAt.upd hv6 hub8 (fun h0 => Nat.ne_of_lt (hvl10 h0))
  have hB11 := Upd.below hB7 (by rw [eb8]; exact hB7.size) hub8
  have hgeb8 : w.heap.size ≤ b8 := by rw [eb8]; exact hB7.size
  refine WL.stL rfl rfl hkb8 isz31 rfl rfl (fun w12 hkw12 huw12 hsw12 => ?_)
  have hv13 := BytesAt.upd hv9 huw12 (fun h0 => Nat.ne_of_lt (hvl10 h0))
  have hB14 := Upd.below hB11 (by omega) huw12
  refine WL.p (.as rfl) rfl <| WL.p (.as rfl) rfl <| WL.nil <| ?_
  refine W.seq ?_
  refine W.reg ?_ -- 2
  refine WL.p (.mv rfl) rfl <| WL.p (.eql rfl rfl) rfl <| WL.p (.mv rfl) rfl <| WL.gy rfl rfl rfl rfl <| WL.p (.mv rfl) rfl <| WL.gy rfl rfl rfl rfl <| WL.p (.eql rfl rfl) rfl <| WL.p (.pkT rfl rfl rfl) rfl <| WL.p (.mv rfl) rfl <| WL.gy rfl rfl rfl rfl <| WL.p (.fa Tryz.underlying31 rfl Tryz.sizeOf3 (by decide) rfl) rfl <| WL.gy rfl rfl rfl rfl <| WL.r (Rd.ld (Tryz.isAgg3 _) rfl hkw12 rfl) rfl <| WL.gy rfl rfl rfl rfl <| WL.p (.eql rfl rfl) rfl <| WL.p (.pkT rfl rfl rfl) rfl <| WL.p (.mv rfl) rfl <| WL.gy rfl rfl rfl rfl <| WL.p (.fa Tryz.underlying31 rfl Tryz.sizeOf3 (by decide) rfl) rfl <| WL.gy rfl rfl rfl rfl <| WL.r (Rd.ld (Tryz.isAgg3 _) rfl hkw12 rfl) rfl <| WL.gy rfl rfl rfl rfl <| WL.p (.eql rfl rfl) rfl <| WL.p (.pkT rfl rfl rfl) rfl <| WL.p (.as rfl) rfl <| WL.nil <| ?_
  refine W.ret (W.ret1 rfl rfl ?_)
  exact ⟨rfl, hB14⟩

theorem law_PlexPlaces (p : Option Addr) (l : List UInt8) (c : Nat) (a : Int) (w : World) (hb : BytesAt w p l) (hc : l.length ≤ c) (_hnb : l = [] → c = 0 ∨ p ≠ none) (_ha : (Lit.int .i64 a).wf = true) :
    Calls Tryz.prog 3 #[.slice p l.length c, .int .i64 a] w fun e w' => e = .returned (.bool true) ∧ Below w.heap.size w w' := by
  obtain ⟨k, hk⟩ : ∃ k, k = insA l a := ⟨_, rfl⟩
  have hkl := insA_le l a
  rw [← hk] at hkl
  have hwl := wordAt_le l k hkl
  refine W.enter Tryz.func3 rfl Tryz.ntmps3 (Nat.le_of_ble_eq_true rfl) ?_
  have hB0 := Below.refl (w.heap.size) w
  refine W.seq ?_
  refine W.reg ?_ -- 0
  refine WL.p (.as rfl) rfl <| WL.nil <| ?_
  refine W.seq ?_
  refine W.seq ?_
  refine W.reg ?_ -- 1
  refine WL.p (.mv rfl) rfl <| WL.p (.lenS Tryz.underlying22 rfl) rfl <| WL.p (.gtr rfl rfl) rfl <| WL.nil <| ?_
  refine W.cond rfl (fun h1 => ?_) (fun h1 => ?_) -- slot 11
  · have h1' := of_decide_eq_true h1
    refine W.seq ?_
    refine W.reg ?_ -- 2
    refine WL.c1 hb10 rfl rfl ((answers19 _)) (fun w2 hw2 => ?_)
    have hv3 := BytesAt.below hb hw2 (fun h0 => hb.lt h0)
    have hB4 := btr hB0 hw2
    refine WL.p (.as rfl) rfl <| WL.nil <| ?_
    refine W.ret (W.ret1 rfl rfl ?_)
    exact ⟨rfl, hB4⟩
  · have h1' := of_decide_eq_false h1
    refine W.skip ?_
    refine W.seq ?_
    refine W.reg ?_ -- 3
    refine WL.p (.mv rfl) rfl <| WL.p (.as rfl) rfl <| WL.nil <| ?_
    refine W.cut (α := Unit) (fun t => [(0, .slice p l.length c), (1, .int .i64 a), (5, .int .i64 (k : Int))]) (fun t w' => w = w') ?_ (fun t w1 hR => ?_)
    · skip
      refine W.seq ?_
      refine W.reg ?_ -- 4
      refine WL.p (.mv rfl) rfl <| WL.p (.lss rfl rfl) rfl <| WL.p (.mv rfl) rfl <| WL.gd rfl rfl rfl (fun g5 => ?_) (fun g5 => ?_)
      · have g5' := of_decide_eq_false g5
        refine WL.p (.mv rfl) rfl <| WL.gy rfl rfl rfl g5 <| WL.p (.mv rfl) rfl <| WL.gy rfl rfl rfl g5 <| WL.p (.lenS Tryz.underlying22 rfl) rfl <| WL.gy rfl rfl rfl g5 <| WL.p (.gtr rfl rfl) rfl <| WL.p (.pkF rfl g5 rfl) rfl <| WL.nil <| ?_
        refine W.cond rfl (fun h6 => ?_) (fun h6 => ?_) -- slot 21
        · have h6' := of_decide_eq_true h6
          refine W.reg ?_ -- 5
          refine WL.p (.mv rfl) rfl <| WL.p (.lenS Tryz.underlying22 rfl) rfl <| WL.p (.as rfl) rfl <| WL.nil <| ?_
          -- join 21.meet/1
          first
          | exact ⟨(), ⟨rfl, rfl, lk_i rfl (by rw [hk]; unfold insA; rw [if_pos (by omega)]), trivial⟩, rfl⟩
          | exact ⟨(), ⟨rfl, rfl, lk_i rfl (by rw [hk]; unfold insA; rw [if_neg (by omega)]; omega), trivial⟩, rfl⟩
          -- met
        · have h6' := of_decide_eq_false h6
          refine W.skip ?_
          -- join 21.meet/2
          first
          | exact ⟨(), ⟨rfl, rfl, lk_i rfl (by rw [hk]; unfold insA; rw [if_pos (by omega)]), trivial⟩, rfl⟩
          | exact ⟨(), ⟨rfl, rfl, lk_i rfl (by rw [hk]; unfold insA; rw [if_neg (by omega)]; omega), trivial⟩, rfl⟩
          -- met
      · have g5' := of_decide_eq_true g5
        refine WL.gn rfl rfl rfl g5 <| WL.gn rfl rfl rfl g5 <| WL.gn rfl rfl rfl g5 <| WL.p (.pkT rfl g5 rfl) rfl <| WL.nil <| ?_
        refine W.condT rfl rfl ?_
        refine W.reg ?_ -- 5
        refine WL.p (.mv rfl) rfl <| WL.p (.lenS Tryz.underlying22 rfl) rfl <| WL.p (.as rfl) rfl <| WL.nil <| ?_
        -- join 21.meet/3
        first
        | exact ⟨(), ⟨rfl, rfl, lk_i rfl (by rw [hk]; unfold insA; rw [if_pos (by omega)]), trivial⟩, rfl⟩
        | exact ⟨(), ⟨rfl, rfl, lk_i rfl (by rw [hk]; unfold insA; rw [if_neg (by omega)]; omega), trivial⟩, rfl⟩
        -- met
    obtain rfl := hR
    refine W.seq ?_
    refine W.reg ?_ -- 6
    refine WL.p (.mv rfl) rfl <| WL.p (.mv rfl) rfl <| WL.c1 hb11 rfl rfl ((plex_Word p l c a _ hb hc (by omega))) (fun w7 hw7 => ?_)
    obtain rfl := hw7
    refine WL.p (.mv rfl) rfl <| WL.p (.ext rfl rfl) rfl <| WL.p (.ext rfl rfl) rfl <| WL.p (.as rfl) rfl <| WL.p (.as rfl) rfl <| WL.nil <| ?_
    refine W.seq ?_
    refine W.reg ?_ -- 7
    refine WL.p (.mv rfl) rfl <| WL.p (.mv rfl) rfl <| WL.c1 hb12 rfl rfl ((ref_Word p l c k _ hb hkl (by omega))) (fun w8 hw8 => ?_)
    obtain rfl := hw8
    refine WL.p (.as rfl) rfl <| WL.nil <| ?_
    refine W.seq ?_
    refine W.reg ?_ -- 8
    refine WL.c1 hb10 rfl rfl ((answers19 _)) (fun w9 hw9 => ?_)
    have hv10 := BytesAt.below hb hw9 (fun h0 => hb.lt h0)
    have hB11 := btr hB0 hw9
    refine WL.p (.mv rfl) rfl <| WL.gy rfl rfl rfl rfl <| WL.p (.mv rfl) rfl <| WL.gy rfl rfl rfl rfl <| WL.p (.mv rfl) rfl <| WL.gy rfl rfl rfl rfl <| WL.c1 hb13 rfl rfl ((plex_Skip p l c a _ hv10 (by omega))) (fun w12 hw12 => ?_)
    obtain rfl := hw12
    refine WL.gy rfl rfl rfl rfl <| WL.p (.mv rfl) rfl <| WL.gy rfl rfl rfl rfl <| WL.p (.mv rfl) rfl <| WL.gy rfl rfl rfl rfl <| WL.c1 hb14 rfl rfl ((ref_Skip p l c k _ hv10 hkl (by omega))) (fun w13 hw13 => ?_)
    obtain rfl := hw13
    refine WL.gy rfl rfl rfl rfl <| WL.p (.bis (true) (.eql rfl rfl) (by simp [hk])) rfl <| WL.p (.pkT rfl rfl rfl) rfl <| WL.p (.mv rfl) rfl <| WL.gy rfl rfl rfl rfl <| WL.p (.mv rfl) rfl <| WL.gy rfl rfl rfl rfl <| WL.p (.mv rfl) rfl <| WL.gy rfl rfl rfl rfl <| WL.p (.bis (true) (.eql rfl rfl) (by simp [hk])) rfl <| WL.p (.pkT rfl rfl rfl) rfl <| WL.p (.mv rfl) rfl <| WL.gy rfl rfl rfl rfl <| WL.p (.mv rfl) rfl <| WL.gy rfl rfl rfl rfl <| WL.p (.mv rfl) rfl <| WL.gy rfl rfl rfl rfl <| WL.p (.mv rfl) rfl <| WL.gy rfl rfl rfl rfl <| WL.p (.mv rfl) rfl <| WL.gy rfl rfl rfl rfl <| WL.p (.slb Tryz.underlying22 Tryz.sizeOf5 rfl rfl rfl  (k) (wordAt l k) (rfl) (by omega) (by omega) (by omega)) rfl <| WL.gy rfl rfl rfl rfl <| WL.r (Rd.b2sPart Tryz.underlying22 Tryz.underlying5 Tryz.underlying9 rfl rfl hv10 (by omega) (by omega) (by omega)) rfl <| WL.gy rfl rfl rfl rfl <| WL.p (.bis (true) (.eqs rfl rfl) (by simp [hk, wordL])) rfl <| WL.p (.pkT rfl rfl rfl) rfl <| WL.p (.as rfl) rfl <| WL.nil <| ?_
    refine W.ret (W.ret1 rfl rfl ?_)
    exact ⟨rfl, hB11⟩

end Go.Proofs.YtjghbcjnplcleaaGreatDoor
