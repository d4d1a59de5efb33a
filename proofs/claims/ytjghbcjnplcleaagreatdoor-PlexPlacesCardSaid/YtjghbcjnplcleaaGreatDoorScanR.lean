/-
  Scan: the reference's functions on bytes.
-/
import Derived.Test.YtjghbcjnplcleaaGreatDoorScanP
import Derived.Test.YtjghbcjnplcleaaGreatDoorFwHb
import Derived.Test.YtjghbcjnplcleaaGreatDoorFwS
import Derived.Test.YtjghbcjnplcleaaGreatDoorTokX
namespace Go.Proofs.YtjghbcjnplcleaaGreatDoor
open Go.RowKit

theorem u8_eq {c d : UInt8} (h : (c.toNat : Int) = (d.toNat : Int)) : c = d := UInt8.toNat_inj.1 (by omega)
theorem u8_ne {c d : UInt8} (h : ¬ (c.toNat : Int) = (d.toNat : Int)) : c ≠ d := fun e => h (by rw [e])
theorem u8_dec (c d : UInt8) : decide ((c.toNat : Int) = (d.toNat : Int)) = (c == d) := by
  by_cases h : c = d
  · subst h; simp
  · rw [beq_false_of_ne h]; exact decide_eq_false fun e => h (u8_eq e)

theorem ref_Blank (c : UInt8) (w : World) :
    Calls Tryz.prog 35 #[.int .u8 (c.toNat : Int)] w fun e w' => e = .returned (.bool (blankB c)) ∧ w = w' := by
  obtain ⟨R, hR⟩ : ∃ R, R = blankB c := ⟨_, rfl⟩
  rw [← hR]
  unfold blankB at hR
  rw [← u8_dec c 0, ← u8_dec c 9, ← u8_dec c 10, ← u8_dec c 12, ← u8_dec c 13, ← u8_dec c 32] at hR
  refine W.enter Tryz.func35 rfl Tryz.ntmps35 (Nat.le_of_ble_eq_true rfl) ?_
  refine W.seq ?_
  refine W.reg ?_ -- 0
  refine WL.p (.as rfl) rfl <| WL.nil <| ?_
  refine W.seq ?_
  refine W.reg ?_ -- 1
  refine WL.p (.mv rfl) rfl <| WL.p (.eql rfl rfl) rfl <| WL.p (.mv rfl) rfl <| WL.gd rfl rfl rfl (fun g1 => ?_) (fun g1 => ?_)
  · have g1' := of_decide_eq_false g1
    refine WL.p (.mv rfl) rfl <| WL.gy rfl rfl rfl g1 <| WL.p (.eql rfl rfl) rfl <| WL.p (.pkF rfl g1 rfl) rfl <| WL.p (.mv rfl) rfl <| WL.gd rfl rfl rfl (fun g2 => ?_) (fun g2 => ?_)
    · have g2' := of_decide_eq_false g2
      refine WL.p (.mv rfl) rfl <| WL.gy rfl rfl rfl g2 <| WL.p (.eql rfl rfl) rfl <| WL.p (.pkF rfl g2 rfl) rfl <| WL.p (.mv rfl) rfl <| WL.gd rfl rfl rfl (fun g3 => ?_) (fun g3 => ?_)
      · have g3' := of_decide_eq_false g3
        refine WL.p (.mv rfl) rfl <| WL.gy rfl rfl rfl g3 <| WL.p (.eql rfl rfl) rfl <| WL.p (.pkF rfl g3 rfl) rfl <| WL.p (.mv rfl) rfl <| WL.gd rfl rfl rfl (fun g4 => ?_) (fun g4 => ?_)
        · have g4' := of_decide_eq_false g4
          refine WL.p (.mv rfl) rfl <| WL.gy rfl rfl rfl g4 <| WL.p (.eql rfl rfl) rfl <| WL.p (.pkF rfl g4 rfl) rfl <| WL.p (.mv rfl) rfl <| WL.gd rfl rfl rfl (fun g5 => ?_) (fun g5 => ?_)
          · have g5' := of_decide_eq_false g5
            refine WL.p (.mv rfl) rfl <| WL.gy rfl rfl rfl g5 <| WL.p (.eql rfl rfl) rfl <| WL.p (.pkF rfl g5 rfl) rfl <| WL.p (.as rfl) rfl <| WL.nil <| ?_
            refine W.ret (W.ret1 rfl rfl ?_)
            exact ⟨ret_bool (by rw [hR]; simp_all), rfl⟩
          · have g5' := of_decide_eq_true g5
            refine WL.gn rfl rfl rfl g5 <| WL.p (.pkT rfl g5 rfl) rfl <| WL.p (.as rfl) rfl <| WL.nil <| ?_
            refine W.ret (W.ret1 rfl rfl ?_)
            exact ⟨ret_bool (by rw [hR]; simp_all), rfl⟩
        · have g4' := of_decide_eq_true g4
          refine WL.gn rfl rfl rfl g4 <| WL.p (.pkT rfl g4 rfl) rfl <| WL.p (.mv rfl) rfl <| WL.gn rfl rfl rfl rfl <| WL.gn rfl rfl rfl rfl <| WL.p (.pkT rfl rfl rfl) rfl <| WL.p (.as rfl) rfl <| WL.nil <| ?_
          refine W.ret (W.ret1 rfl rfl ?_)
          exact ⟨ret_bool (by rw [hR]; simp_all), rfl⟩
      · have g3' := of_decide_eq_true g3
        refine WL.gn rfl rfl rfl g3 <| WL.p (.pkT rfl g3 rfl) rfl <| WL.p (.mv rfl) rfl <| WL.gn rfl rfl rfl rfl <| WL.gn rfl rfl rfl rfl <| WL.p (.pkT rfl rfl rfl) rfl <| WL.p (.mv rfl) rfl <| WL.gn rfl rfl rfl rfl <| WL.gn rfl rfl rfl rfl <| WL.p (.pkT rfl rfl rfl) rfl <| WL.p (.as rfl) rfl <| WL.nil <| ?_
        refine W.ret (W.ret1 rfl rfl ?_)
        exact ⟨ret_bool (by rw [hR]; simp_all), rfl⟩
    · have g2' := of_decide_eq_true g2
      refine WL.gn rfl rfl rfl g2 <| WL.p (.pkT rfl g2 rfl) rfl <| WL.p (.mv rfl) rfl <| WL.gn rfl rfl rfl rfl <| WL.gn rfl rfl rfl rfl <| WL.p (.pkT rfl rfl rfl) rfl <| WL.p (.mv rfl) rfl <| WL.gn rfl rfl rfl rfl <| WL.gn rfl rfl rfl rfl <| WL.p (.pkT rfl rfl rfl) rfl <| WL.p (.mv rfl) rfl <| WL.gn rfl rfl rfl rfl <| WL.gn rfl rfl rfl rfl <| WL.p (.pkT rfl rfl rfl) rfl <| WL.p (.as rfl) rfl <| WL.nil <| ?_
      refine W.ret (W.ret1 rfl rfl ?_)
      exact ⟨ret_bool (by rw [hR]; simp_all), rfl⟩
  · have g1' := of_decide_eq_true g1
    refine WL.gn rfl rfl rfl g1 <| WL.p (.pkT rfl g1 rfl) rfl <| WL.p (.mv rfl) rfl <| WL.gn rfl rfl rfl rfl <| WL.gn rfl rfl rfl rfl <| WL.p (.pkT rfl rfl rfl) rfl <| WL.p (.mv rfl) rfl <| WL.gn rfl rfl rfl rfl <| WL.gn rfl rfl rfl rfl <| WL.p (.pkT rfl rfl rfl) rfl <| WL.p (.mv rfl) rfl <| WL.gn rfl rfl rfl rfl <| WL.gn rfl rfl rfl rfl <| WL.p (.pkT rfl rfl rfl) rfl <| WL.p (.mv rfl) rfl <| WL.gn rfl rfl rfl rfl <| WL.gn rfl rfl rfl rfl <| WL.p (.pkT rfl rfl rfl) rfl <| WL.p (.as rfl) rfl <| WL.nil <| ?_
    refine W.ret (W.ret1 rfl rfl ?_)
    exact ⟨ret_bool (by rw [hR]; simp_all), rfl⟩

theorem ref_Delimiter (c : UInt8) (w : World) :
    Calls Tryz.prog 61 #[.int .u8 (c.toNat : Int)] w fun e w' => e = .returned (.bool (delimB c)) ∧ w = w' := by
  obtain ⟨R, hR⟩ : ∃ R, R = delimB c := ⟨_, rfl⟩
  rw [← hR]
  unfold delimB at hR
  rw [← u8_dec c 40, ← u8_dec c 41, ← u8_dec c 60, ← u8_dec c 62, ← u8_dec c 91, ← u8_dec c 93, ← u8_dec c 123, ← u8_dec c 125, ← u8_dec c 47, ← u8_dec c 37] at hR
  refine W.enter Tryz.func61 rfl Tryz.ntmps61 (Nat.le_of_ble_eq_true rfl) ?_
  refine W.seq ?_
  refine W.reg ?_ -- 0
  refine WL.p (.as rfl) rfl <| WL.nil <| ?_
  refine W.seq ?_
  refine W.seq ?_
  refine W.reg ?_ -- 1
  refine WL.p (.mv rfl) rfl <| WL.nil <| ?_
  refine W.block ?_
  refine W.seq ?_
  refine W.seq ?_
  refine W.reg ?_ -- 2
  refine WL.p (.eql rfl rfl) rfl <| WL.p (.as rfl) rfl <| WL.nil <| ?_
  refine W.cond rfl (fun h1 => ?_) (fun h1 => ?_) -- slot 4
  · have h1' := of_decide_eq_true h1
    refine W.skip ?_
    refine W.condT rfl h1 ?_
    refine W.seq ?_
    refine W.reg ?_ -- 12
    refine WL.p (.as rfl) rfl <| WL.nil <| ?_
    refine W.ret (W.ret1 rfl rfl ?_)
    exact ⟨ret_bool (by rw [hR]; simp_all), rfl⟩
  · have h1' := of_decide_eq_false h1
    refine W.seq ?_
    refine W.reg ?_ -- 3
    refine WL.p (.eql rfl rfl) rfl <| WL.p (.as rfl) rfl <| WL.nil <| ?_
    refine W.cond rfl (fun h2 => ?_) (fun h2 => ?_) -- slot 4
    · have h2' := of_decide_eq_true h2
      refine W.skip ?_
      refine W.condT rfl h2 ?_
      refine W.seq ?_
      refine W.reg ?_ -- 12
      refine WL.p (.as rfl) rfl <| WL.nil <| ?_
      refine W.ret (W.ret1 rfl rfl ?_)
      exact ⟨ret_bool (by rw [hR]; simp_all), rfl⟩
    · have h2' := of_decide_eq_false h2
      refine W.seq ?_
      refine W.reg ?_ -- 4
      refine WL.p (.eql rfl rfl) rfl <| WL.p (.as rfl) rfl <| WL.nil <| ?_
      refine W.cond rfl (fun h3 => ?_) (fun h3 => ?_) -- slot 4
      · have h3' := of_decide_eq_true h3
        refine W.skip ?_
        refine W.condT rfl h3 ?_
        refine W.seq ?_
        refine W.reg ?_ -- 12
        refine WL.p (.as rfl) rfl <| WL.nil <| ?_
        refine W.ret (W.ret1 rfl rfl ?_)
        exact ⟨ret_bool (by rw [hR]; simp_all), rfl⟩
      · have h3' := of_decide_eq_false h3
        refine W.seq ?_
        refine W.reg ?_ -- 5
        refine WL.p (.eql rfl rfl) rfl <| WL.p (.as rfl) rfl <| WL.nil <| ?_
        refine W.cond rfl (fun h4 => ?_) (fun h4 => ?_) -- slot 4
        · have h4' := of_decide_eq_true h4
          refine W.skip ?_
          refine W.condT rfl h4 ?_
          refine W.seq ?_
          refine W.reg ?_ -- 12
          refine WL.p (.as rfl) rfl <| WL.nil <| ?_
          refine W.ret (W.ret1 rfl rfl ?_)
          exact ⟨ret_bool (by rw [hR]; simp_all), rfl⟩
        · have h4' := of_decide_eq_false h4
          refine W.seq ?_
          refine W.reg ?_ -- 6
          refine WL.p (.eql rfl rfl) rfl <| WL.p (.as rfl) rfl <| WL.nil <| ?_
          refine W.cond rfl (fun h5 => ?_) (fun h5 => ?_) -- slot 4
          · have h5' := of_decide_eq_true h5
            refine W.skip ?_
            refine W.condT rfl h5 ?_
            refine W.seq ?_
            refine W.reg ?_ -- 12
            refine WL.p (.as rfl) rfl <| WL.nil <| ?_
            refine W.ret (W.ret1 rfl rfl ?_)
            exact ⟨ret_bool (by rw [hR]; simp_all), rfl⟩
          · have h5' := of_decide_eq_false h5
            refine W.seq ?_
            refine W.reg ?_ -- 7
            refine WL.p (.eql rfl rfl) rfl <| WL.p (.as rfl) rfl <| WL.nil <| ?_
            refine W.cond rfl (fun h6 => ?_) (fun h6 => ?_) -- slot 4
            · have h6' := of_decide_eq_true h6
              refine W.skip ?_
              refine W.condT rfl h6 ?_
              refine W.seq ?_
              refine W.reg ?_ -- 12
              refine WL.p (.as rfl) rfl <| WL.nil <| ?_
              refine W.ret (W.ret1 rfl rfl ?_)
              exact ⟨ret_bool (by rw [hR]; simp_all), rfl⟩
            · have h6' := of_decide_eq_false h6
              refine W.seq ?_
              refine W.reg ?_ -- 8
              refine WL.p (.eql rfl rfl) rfl <| WL.p (.as rfl) rfl <| WL.nil <| ?_
              refine W.cond rfl (fun h7 => ?_) (fun h7 => ?_) -- slot 4
              · have h7' := of_decide_eq_true h7
                refine W.skip ?_
                refine W.condT rfl h7 ?_
                refine W.seq ?_
                refine W.reg ?_ -- 12
                refine WL.p (.as rfl) rfl <| WL.nil <| ?_
                refine W.ret (W.ret1 rfl rfl ?_)
                exact ⟨ret_bool (by rw [hR]; simp_all), rfl⟩
              · have h7' := of_decide_eq_false h7
                refine W.seq ?_
                refine W.reg ?_ -- 9
                refine WL.p (.eql rfl rfl) rfl <| WL.p (.as rfl) rfl <| WL.nil <| ?_
                refine W.cond rfl (fun h8 => ?_) (fun h8 => ?_) -- slot 4
                · have h8' := of_decide_eq_true h8
                  refine W.skip ?_
                  refine W.condT rfl h8 ?_
                  refine W.seq ?_
                  refine W.reg ?_ -- 12
                  refine WL.p (.as rfl) rfl <| WL.nil <| ?_
                  refine W.ret (W.ret1 rfl rfl ?_)
                  exact ⟨ret_bool (by rw [hR]; simp_all), rfl⟩
                · have h8' := of_decide_eq_false h8
                  refine W.seq ?_
                  refine W.reg ?_ -- 10
                  refine WL.p (.eql rfl rfl) rfl <| WL.p (.as rfl) rfl <| WL.nil <| ?_
                  refine W.cond rfl (fun h9 => ?_) (fun h9 => ?_) -- slot 4
                  · have h9' := of_decide_eq_true h9
                    refine W.skip ?_
                    refine W.condT rfl h9 ?_
                    refine W.seq ?_
                    refine W.reg ?_ -- 12
                    refine WL.p (.as rfl) rfl <| WL.nil <| ?_
                    refine W.ret (W.ret1 rfl rfl ?_)
                    exact ⟨ret_bool (by rw [hR]; simp_all), rfl⟩
                  · have h9' := of_decide_eq_false h9
                    refine W.reg ?_ -- 11
                    refine WL.p (.eql rfl rfl) rfl <| WL.p (.as rfl) rfl <| WL.nil <| ?_
                    refine W.cond rfl (fun h10 => ?_) (fun h10 => ?_) -- slot 4
                    · have h10' := of_decide_eq_true h10
                      refine W.seq ?_
                      refine W.reg ?_ -- 12
                      refine WL.p (.as rfl) rfl <| WL.nil <| ?_
                      refine W.ret (W.ret1 rfl rfl ?_)
                      exact ⟨ret_bool (by rw [hR]; simp_all), rfl⟩
                    · have h10' := of_decide_eq_false h10
                      refine W.skip ?_
                      refine W.seq ?_
                      refine W.reg ?_ -- 13
                      refine WL.p (.as rfl) rfl <| WL.nil <| ?_
                      refine W.ret (W.ret1 rfl rfl ?_)
                      exact ⟨ret_bool (by rw [hR]; simp_all), rfl⟩

theorem ref_Regular (c : UInt8) (w : World) :
    Calls Tryz.prog 33 #[.int .u8 (c.toNat : Int)] w fun e w' => e = .returned (.bool (regB c)) ∧ w = w' := by
  refine W.enter Tryz.func33 rfl Tryz.ntmps33 (Nat.le_of_ble_eq_true rfl) ?_
  refine W.seq ?_
  refine W.reg ?_ -- 0
  refine WL.p (.as rfl) rfl <| WL.nil <| ?_
  refine W.seq ?_
  refine W.reg ?_ -- 1
  refine WL.p (.mv rfl) rfl <| WL.c1 hb35 rfl rfl ((ref_Blank c _)) (fun w1 hw1 => ?_)
  obtain rfl := hw1
  refine WL.p (.not rfl) rfl <| WL.p (.mv rfl) rfl <| WL.gd rfl rfl rfl (fun g2 => ?_) (fun g2 => ?_)
  · have g2' := (nT g2)
    refine WL.p (.mv rfl) rfl <| WL.gy rfl rfl rfl (by rw [(nT g2)] <;> rfl) <| WL.c1 hb61 rfl rfl ((ref_Delimiter c _)) (fun w3 hw3 => ?_)
    obtain rfl := hw3
    refine WL.gy rfl rfl rfl (by rw [(nT g2)] <;> rfl) <| WL.p (.not rfl) rfl <| WL.p (.pkT rfl (by rw [(nT g2)] <;> rfl) rfl) rfl <| WL.p (.as rfl) rfl <| WL.nil <| ?_
    refine W.ret (W.ret1 rfl rfl ?_)
    exact ⟨ret_bool (by unfold regB; simp_all), rfl⟩
  · have g2' := (nF g2)
    refine WL.gn rfl rfl rfl (by rw [(nF g2)] <;> rfl) <| WL.gn rfl rfl rfl (by rw [(nF g2)] <;> rfl) <| WL.p (.pkF rfl (by rw [(nF g2)] <;> rfl) rfl) rfl <| WL.p (.as rfl) rfl <| WL.nil <| ?_
    refine W.ret (W.ret1 rfl rfl ?_)
    exact ⟨ret_bool (by unfold regB; simp_all), rfl⟩

theorem ref_none (n : Int) (w : World) :
    Calls Tryz.prog 154 #[.int .i64 n] w fun e w' => e = .returned (.tuple #[.agg #[.int .i64 0, .int .i64 0, .string ⟨#[]⟩], .int .i64 0, .int .i64 n]) ∧ Below w.heap.size w w' := by
  refine W.enter Tryz.func154 rfl Tryz.ntmps154 (Nat.le_of_ble_eq_true rfl) ?_
  have hB0 := Below.refl (w.heap.size) w
  refine W.seq ?_
  refine W.reg ?_ -- 0
  refine WL.alloc Tryz.zeroValue143 rfl (fun b1 wb1 eb1 hkb1 hub1 hsb1 => ?_)
  have hB2 := Upd.below hB0 (by rw [eb1]; exact hB0.size) hub1
  have hgeb1 : w.heap.size ≤ b1 := by rw [eb1]; exact hB0.size
  refine WL.p (.as rfl) rfl <| WL.p (.as rfl) rfl <| WL.nil <| ?_
  refine W.seq ?_
  refine W.reg ?_ -- 1
  refine WL.p (.buildL (ps := _) blt143 rfl rfl rfl (by simp only [put1, List.map, List.zip, List.zipWith] <;> rfl)) rfl ?_
  refine WL.p (.mv rfl) rfl <| WL.stL rfl rfl hkb1 isz143 rfl rfl (fun w3 hkw3 huw3 hsw3 => ?_)
  have hB4 := Upd.below hB2 (by omega) huw3
  refine WL.p (.as rfl) rfl <| WL.p (.as rfl) rfl <| WL.nil <| ?_
  refine W.ret (W.retc3 rfl rfl (ldRow hkw3 Tryz.underlying143 rfl isz143) rfl rfl ?_)
  exact ⟨rfl, hB4⟩

theorem takeWhile_drop (q : UInt8 → Bool) (l : List UInt8) (t : Nat) (h : t < l.length) : (l.drop t).takeWhile q = if q l[t] then l[t] :: (l.drop (t + 1)).takeWhile q else [] := by
  rw [List.drop_eq_getElem_cons h, List.takeWhile_cons]
/-- the place behind regular bytes -/
def wordAt (l : List UInt8) (t : Nat) : Nat := t + ((l.drop t).takeWhile regB).length
theorem wordAt_le (l : List UInt8) (t : Nat) (h : t ≤ l.length) : t ≤ wordAt l t ∧ wordAt l t ≤ l.length := by
  have h1 := (List.takeWhile_sublist regB (l := l.drop t)).length_le
  rw [List.length_drop] at h1
  unfold wordAt; omega
theorem ref_Word (p : Option Addr) (l : List UInt8) (c a : Nat) (w : World) (hb : BytesAt w p l) (ha : a ≤ l.length) (hl : l.length ≤ 1000000) :
    Calls Tryz.prog 12 #[.slice p l.length c, .int .i64 (a : Int)] w fun e w' => e = .returned (.int .i64 (wordAt l a : Int)) ∧ w = w' := by
  obtain ⟨R, hR⟩ : ∃ R, R = wordAt l a := ⟨_, rfl⟩
  rw [← hR]
  refine W.enter Tryz.func12 rfl Tryz.ntmps12 (Nat.le_of_ble_eq_true rfl) ?_
  refine W.seq ?_
  refine W.reg ?_ -- 0
  refine WL.p (.as rfl) rfl <| WL.nil <| ?_
  refine W.seq ?_
  refine W.block ?_
  -- loop 1: writes [1, 5, 6, 7, 8, 9, 10, 11, 12, 13, 14, 15, 16, 17]; reads from outside [0, 1]
  refine W.loop (α := Nat) (fun t => [(0, .slice p l.length c), (1, .int .i64 (t : Int))]) (fun t w' => w = w' ∧ t ≤ l.length ∧ wordAt l t = R) (fun t => l.length - t) (a) ⟨rfl, rfl, trivial⟩ (⟨rfl, ha, hR.symm⟩) (fun t w1 hR => ?_)
  obtain ⟨rfl, ht, hw⟩ := hR
  refine W.seq ?_
  refine W.seq ?_
  refine W.reg ?_ -- 1
  refine WL.p (.mv rfl) rfl <| WL.p (.mv rfl) rfl <| WL.p (.lenS Tryz.underlying22 rfl) rfl <| WL.p (.lss rfl rfl) rfl <| WL.p (.mv rfl) rfl <| WL.gd rfl rfl rfl (fun g1 => ?_) (fun g1 => ?_)
  · have g1' := of_decide_eq_true g1
    refine WL.p (.mv rfl) rfl <| WL.gy rfl rfl rfl g1 <| WL.p (.mv rfl) rfl <| WL.gy rfl rfl rfl g1 <| WL.p (.ixb Tryz.underlying22 Tryz.sizeOf5 rfl rfl (hb.isp (by omega)) _ rfl (by omega)) rfl <| WL.gy rfl rfl rfl g1 <| ?_
    have hs := takeWhile_drop regB l t (by omega)
    refine WL.r (Rd.ldc (Tryz.isAgg5 _) rfl (hb.cells _ (by omega))) rfl <| WL.gy rfl rfl rfl g1 <| WL.c1 hb33 rfl rfl ((ref_Regular _ _)) (fun w2 hw2 => ?_)
    obtain rfl := hw2
    refine WL.p (.pkT rfl g1 rfl) rfl <| WL.nil <| ?_
    refine W.cond rfl (fun h3 => ?_) (fun h3 => ?_) -- slot 15
    · have h3' := h3
      refine W.skip ?_
      refine W.block ?_
      refine W.reg ?_ -- 2
      refine WL.p (.mv rfl) rfl <| WL.p (.add rfl rfl (i64w (by omega))) rfl <| WL.p (.as rfl) rfl <| WL.nil <| ?_
      exact ⟨t + 1, ⟨rfl, lk_i rfl (by omega), trivial⟩, ⟨rfl, by omega, by unfold wordAt at hw ⊢; rw [hs, if_pos (by assumption), List.length_cons] at hw; omega⟩, by omega⟩
    · have h3' := h3
      refine W.exit ?_ -- 0
      refine W.seq ?_
      refine W.reg ?_ -- 3
      refine WL.p (.mv rfl) rfl <| WL.p (.as rfl) rfl <| WL.nil <| ?_
      refine W.ret (W.ret1 rfl rfl ?_)
      first
      | exact ⟨ret_int (by unfold wordAt at hw; rw [hs, if_neg (by simp_all), List.length_nil] at hw; omega), rfl⟩
      | exact ⟨ret_int (by unfold wordAt at hw; rw [List.drop_eq_nil_of_le (by omega)] at hw; simp at hw; omega), rfl⟩
  · have g1' := of_decide_eq_false g1
    refine WL.gn rfl rfl rfl g1 <| WL.gn rfl rfl rfl g1 <| WL.gn rfl rfl rfl g1 <| WL.gn rfl rfl rfl g1 <| WL.p (.pkF rfl g1 rfl) rfl <| WL.nil <| ?_
    refine W.condF rfl rfl ?_
    refine W.exit ?_ -- 0
    refine W.seq ?_
    refine W.reg ?_ -- 3
    refine WL.p (.mv rfl) rfl <| WL.p (.as rfl) rfl <| WL.nil <| ?_
    refine W.ret (W.ret1 rfl rfl ?_)
    first
    | exact ⟨ret_int (by unfold wordAt at hw; rw [hs, if_neg (by simp_all), List.length_nil] at hw; omega), rfl⟩
    | exact ⟨ret_int (by unfold wordAt at hw; rw [List.drop_eq_nil_of_le (by omega)] at hw; simp at hw; omega), rfl⟩

-- blanks and comments
def skipAt (m : Bool) (l : List UInt8) (t : Nat) : Nat := l.length - (skipS m (l.drop t)).length
theorem skipAt_le (m : Bool) (l : List UInt8) (t : Nat) : skipAt m l t ≤ l.length := Nat.sub_le _ _
theorem skipAt_drop (m : Bool) (l : List UInt8) (t : Nat) : l.drop (skipAt m l t) = skipS m (l.drop t) := by
  obtain ⟨k, h1, h2⟩ := skipS_suffix (l.drop t) m
  unfold skipAt
  rw [h2, List.drop_drop, List.length_drop]
  rw [List.length_drop] at h1
  by_cases h : t + k ≤ l.length
  · congr 1; omega
  · rw [List.drop_eq_nil_of_le (by omega), List.drop_eq_nil_of_le (by omega)]
theorem skipAt_f (l : List UInt8) (t : Nat) (h : t < l.length) : skipAt false l t = if l[t] = 37 then skipAt true l (t + 1) else if blankB l[t] then skipAt false l (t + 1) else t := by
  unfold skipAt
  rw [List.drop_eq_getElem_cons h]
  simp only [skipS]
  split
  · rfl
  · split
    · rfl
    · simp; omega
theorem skipAt_t (l : List UInt8) (t : Nat) (h : t < l.length) : skipAt true l t = if endB l[t] then skipAt false l (t + 1) else skipAt true l (t + 1) := by
  unfold skipAt
  rw [List.drop_eq_getElem_cons h]
  simp only [skipS]
  split <;> rfl
theorem skipAt_end (m : Bool) (l : List UInt8) (t : Nat) (h : l.length ≤ t) : skipAt m l t = l.length := by
  unfold skipAt
  rw [List.drop_eq_nil_of_le h]; cases m <;> simp [skipS]
/-- from a comment's end on as from no comment -/
theorem skipAt_out (l : List UInt8) (t : Nat) (h : t < l.length → endB l[t]! = true) : skipAt true l t = skipAt false l t := by
  by_cases ht : t < l.length
  · have he := h ht
    rw [getElem!_pos l t ht] at he
    rw [skipAt_t l t ht, if_pos he, skipAt_f l t ht, if_pos (endB_blank he), if_neg (by rintro e; rw [e] at he; cases he)]
  · rw [skipAt_end true l t (by omega), skipAt_end false l t (by omega)]
/-- still in a comment -/
def cmtB (l : List UInt8) (t : Nat) : Bool := decide (t < l.length) && !(decide (((l[t]!).toNat : Int) = 10) || decide (((l[t]!).toNat : Int) = 12) || decide (((l[t]!).toNat : Int) = 13))
theorem cmtB_eq (l : List UInt8) (t : Nat) : cmtB l t = (decide (t < l.length) && !endB l[t]!) := by
  unfold cmtB endB
  rw [← u8_dec _ 10, ← u8_dec _ 12, ← u8_dec _ 13]; rfl
theorem cmtB_t {l : List UInt8} {t : Nat} (h : cmtB l t = true) : ∃ ht : t < l.length, endB (l[t]'ht) = false := by
  rw [cmtB_eq] at h
  simp only [Bool.and_eq_true, decide_eq_true_eq, Bool.not_eq_true'] at h
  obtain ⟨h1, h2⟩ := h
  rw [getElem!_pos l t h1] at h2
  exact ⟨h1, h2⟩
theorem cmtB_f {l : List UInt8} {t : Nat} (h : cmtB l t = false) : skipAt true l t = skipAt false l t ∧ (∀ ht : t < l.length, (l[t]'ht) ≠ 37) := by
  rw [cmtB_eq] at h
  have h2 : t < l.length → endB l[t]! = true := fun ht => by simpa [ht] using h
  refine ⟨skipAt_out l t h2, fun ht e => ?_⟩
  have := h2 ht
  rw [getElem!_pos l t ht, e] at this
  cases this
theorem ref_Skip (p : Option Addr) (l : List UInt8) (c a : Nat) (w : World) (hb : BytesAt w p l) (ha : a ≤ l.length) (hl : l.length ≤ 1000000) :
    Calls Tryz.prog 14 #[.slice p l.length c, .int .i64 (a : Int)] w fun e w' => e = .returned (.int .i64 (skipAt false l a : Int)) ∧ w = w' := by
  obtain ⟨R, hR⟩ : ∃ R, R = skipAt false l a := ⟨_, rfl⟩
  rw [← hR]
  refine W.enter Tryz.func14 rfl Tryz.ntmps14 (Nat.le_of_ble_eq_true rfl) ?_
  refine W.seq ?_
  refine W.reg ?_ -- 0
  refine WL.p (.as rfl) rfl <| WL.nil <| ?_
  refine W.seq ?_
  refine W.block ?_
  -- loop 1: writes [1, 4, 5, 6, 7, 8, 9, 10, 11, 12, 13, 14, 15, 16, 17, 18, 19, 20, 21, 22, 23, 24, 25, 26, 27, 28, 29, 30, 31, 32, 33, 34, 35, 36, 37, 38, 39, 40, 41, 42, 43, 44, 45, 46, 47, 48, 49]; reads from outside [0, 1]
  refine W.loop (α := Nat) (fun t => [(0, .slice p l.length c), (1, .int .i64 (t : Int))]) (fun t w' => w = w' ∧ t ≤ l.length ∧ skipAt false l t = R) (fun t => l.length - t) (a) ⟨rfl, rfl, trivial⟩ (⟨rfl, ha, hR.symm⟩) (fun t w1 hR => ?_)
  obtain ⟨rfl, ht, hw⟩ := hR
  obtain ⟨s, rfl⟩ : ∃ s, s = t := ⟨t, rfl⟩
  refine W.seq ?_
  refine W.seq ?_
  refine W.reg ?_ -- 1
  refine WL.p (.mv rfl) rfl <| WL.p (.mv rfl) rfl <| WL.p (.lenS Tryz.underlying22 rfl) rfl <| WL.p (.lss rfl rfl) rfl <| WL.nil <| ?_
  refine W.cond rfl (fun h1 => ?_) (fun h1 => ?_) -- slot 8
  · have h1' := of_decide_eq_true h1
    refine W.skip ?_
    refine W.block ?_
    refine W.seq ?_
    refine W.seq ?_
    refine W.reg ?_ -- 2
    have hs := skipAt_f l s (by omega)
    have hs' : l[s]! = l[s]'(by omega) := getElem!_pos l s (by omega)
    refine WL.p (.mv rfl) rfl <| WL.p (.mv rfl) rfl <| WL.p (.ixb Tryz.underlying22 Tryz.sizeOf5 rfl rfl (hb.isp (by omega)) _ rfl (by omega)) rfl <| WL.r (Rd.ldc (Tryz.isAgg5 _) rfl (hb.cells _ (by omega))) rfl <| WL.p (.eql rfl rfl) rfl <| WL.nil <| ?_
    refine W.cond rfl (fun h2 => ?_) (fun h2 => ?_) -- slot 13
    · have h2' := of_decide_eq_true h2
      refine W.seq ?_
      refine W.block ?_
      -- loop 2: writes [1, 14, 15, 16, 17, 18, 19, 20, 21, 22, 23, 24, 25, 26, 27, 28, 29, 30, 31, 32, 33, 34, 35, 36, 37, 38, 39, 40]; reads from outside [0, 1]
      refine W.loop (α := Nat) (fun t => [(0, .slice p l.length c), (1, .int .i64 (t : Int))]) (fun t w' => w = w' ∧ s ≤ t ∧ t ≤ l.length ∧ skipAt true l t = R ∧ (t = s → l[s]'(by omega) = 37)) (fun t => l.length - t) (s) ⟨rfl, rfl, trivial⟩ (⟨rfl, by omega, by omega, by rw [skipAt_t l s (by omega), if_neg (by rw [show l[s] = 37 from u8_eq (by assumption)]; decide), ← hw, hs, if_pos (u8_eq (by assumption))], fun _ => u8_eq (by assumption)⟩) (fun t w1 hR => ?_)
      obtain ⟨rfl, hst, ht2, hw2, h37⟩ := hR
      refine W.seq ?_
      refine W.cutB 38 (cmtB l t) ?_ ?_
      · skip
        refine W.reg ?_ -- 3
        refine WL.p (.mv rfl) rfl <| WL.p (.mv rfl) rfl <| WL.p (.lenS Tryz.underlying22 rfl) rfl <| WL.p (.lss rfl rfl) rfl <| WL.p (.mv rfl) rfl <| WL.gd rfl rfl rfl (fun g3 => ?_) (fun g3 => ?_)
        · have g3' := of_decide_eq_true g3
          refine WL.p (.mv rfl) rfl <| WL.gy rfl rfl rfl g3 <| WL.p (.mv rfl) rfl <| WL.gy rfl rfl rfl g3 <| WL.p (.ixb Tryz.underlying22 Tryz.sizeOf5 rfl rfl (hb.isp (by omega)) _ rfl (by omega)) rfl <| WL.gy rfl rfl rfl g3 <| WL.r (Rd.ldc (Tryz.isAgg5 _) rfl (hb.cells _ (by omega))) rfl <| WL.gy rfl rfl rfl g3 <| WL.p (.neq rfl rfl) rfl <| WL.p (.pkT rfl g3 rfl) rfl <| WL.p (.mv rfl) rfl <| WL.gd rfl rfl rfl (fun g4 => ?_) (fun g4 => ?_)
          · have g4' := ndT g4
            refine WL.p (.mv rfl) rfl <| WL.gy rfl rfl rfl g4 <| WL.p (.mv rfl) rfl <| WL.gy rfl rfl rfl g4 <| WL.p (.ixb Tryz.underlying22 Tryz.sizeOf5 rfl rfl (hb.isp (by omega)) _ rfl (by omega)) rfl <| WL.gy rfl rfl rfl g4 <| WL.r (Rd.ldc (Tryz.isAgg5 _) rfl (hb.cells _ (by omega))) rfl <| WL.gy rfl rfl rfl g4 <| WL.p (.neq rfl rfl) rfl <| WL.p (.pkT rfl g4 rfl) rfl <| WL.p (.mv rfl) rfl <| WL.gd rfl rfl rfl (fun g5 => ?_) (fun g5 => ?_)
            · have g5' := ndT g5
              refine WL.p (.mv rfl) rfl <| WL.gy rfl rfl rfl g5 <| WL.p (.mv rfl) rfl <| WL.gy rfl rfl rfl g5 <| WL.p (.ixb Tryz.underlying22 Tryz.sizeOf5 rfl rfl (hb.isp (by omega)) _ rfl (by omega)) rfl <| WL.gy rfl rfl rfl g5 <| WL.r (Rd.ldc (Tryz.isAgg5 _) rfl (hb.cells _ (by omega))) rfl <| WL.gy rfl rfl rfl g5 <| WL.p (.neq rfl rfl) rfl <| WL.p (.pkT rfl g5 rfl) rfl <| WL.nil <| ?_
              exact ⟨⟨lk_b rfl (by (by_cases hq : t < l.length) <;> (unfold cmtB; first | (exfalso; omega) | (rw [getElem!_pos l t hq]; simp_all; done) | (rw [decide_eq_false hq]; simp_all; done))), by repeat (first | exact Le.refl _ | refine Le.cons rfl ?_)⟩, rfl⟩
            · have g5' := ndF g5
              refine WL.gn rfl rfl rfl g5 <| WL.gn rfl rfl rfl g5 <| WL.gn rfl rfl rfl g5 <| WL.gn rfl rfl rfl g5 <| WL.p (.pkF rfl g5 rfl) rfl <| WL.nil <| ?_
              exact ⟨⟨lk_b rfl (by (by_cases hq : t < l.length) <;> (unfold cmtB; first | (exfalso; omega) | (rw [getElem!_pos l t hq]; simp_all; done) | (rw [decide_eq_false hq]; simp_all; done))), by repeat (first | exact Le.refl _ | refine Le.cons rfl ?_)⟩, rfl⟩
          · have g4' := ndF g4
            refine WL.gn rfl rfl rfl g4 <| WL.gn rfl rfl rfl g4 <| WL.gn rfl rfl rfl g4 <| WL.gn rfl rfl rfl g4 <| WL.p (.pkF rfl g4 rfl) rfl <| WL.p (.mv rfl) rfl <| WL.gn rfl rfl rfl rfl <| WL.gn rfl rfl rfl rfl <| WL.gn rfl rfl rfl rfl <| WL.gn rfl rfl rfl rfl <| WL.gn rfl rfl rfl rfl <| WL.p (.pkF rfl rfl rfl) rfl <| WL.nil <| ?_
            exact ⟨⟨lk_b rfl (by (by_cases hq : t < l.length) <;> (unfold cmtB; first | (exfalso; omega) | (rw [getElem!_pos l t hq]; simp_all; done) | (rw [decide_eq_false hq]; simp_all; done))), by repeat (first | exact Le.refl _ | refine Le.cons rfl ?_)⟩, rfl⟩
        · have g3' := of_decide_eq_false g3
          refine WL.gn rfl rfl rfl g3 <| WL.gn rfl rfl rfl g3 <| WL.gn rfl rfl rfl g3 <| WL.gn rfl rfl rfl g3 <| WL.p (.pkF rfl g3 rfl) rfl <| WL.p (.mv rfl) rfl <| WL.gn rfl rfl rfl rfl <| WL.gn rfl rfl rfl rfl <| WL.gn rfl rfl rfl rfl <| WL.gn rfl rfl rfl rfl <| WL.gn rfl rfl rfl rfl <| WL.p (.pkF rfl rfl rfl) rfl <| WL.p (.mv rfl) rfl <| WL.gn rfl rfl rfl rfl <| WL.gn rfl rfl rfl rfl <| WL.gn rfl rfl rfl rfl <| WL.gn rfl rfl rfl rfl <| WL.gn rfl rfl rfl rfl <| WL.p (.pkF rfl rfl rfl) rfl <| WL.nil <| ?_
          exact ⟨⟨lk_b rfl (by (by_cases hq : t < l.length) <;> (unfold cmtB; first | (exfalso; omega) | (rw [getElem!_pos l t hq]; simp_all; done) | (rw [decide_eq_false hq]; simp_all; done))), by repeat (first | exact Le.refl _ | refine Le.cons rfl ?_)⟩, rfl⟩
      refine W.cond rfl (fun h6 => ?_) (fun h6 => ?_) -- slot 38
      · have h6' := h6
        obtain ⟨hk1, hk2⟩ := cmtB_t (by assumption)
        rw [skipAt_t l t hk1, hk2, if_neg (by simp)] at hw2
        refine W.skip ?_
        refine W.block ?_
        refine W.reg ?_ -- 4
        refine WL.p (.mv rfl) rfl <| WL.p (.add rfl rfl (i64w (by omega))) rfl <| WL.p (.as rfl) rfl <| WL.nil <| ?_
        exact ⟨t + 1, ⟨rfl, lk_i rfl (by omega), trivial⟩, ⟨rfl, by omega, by omega, by omega, fun h => by omega⟩, by omega⟩
      · have h6' := h6
        obtain ⟨hk1, hk2⟩ := cmtB_f (by assumption)
        have hk3 : t ≠ s := fun e => by subst e; exact hk2 (by omega) (h37 rfl)
        refine W.exit ?_ -- 2
        refine W.exit ?_ -- 1
        first
        | exact ⟨s + 1, ⟨rfl, lk_i rfl (by omega), trivial⟩, ⟨rfl, by omega, by rw [← hw, hs, if_neg (u8_ne (by assumption)), if_pos (by simp_all)]⟩, by omega⟩
        | exact ⟨t, ⟨rfl, lk_i rfl (by omega), trivial⟩, ⟨rfl, by omega, by omega⟩, by omega⟩
    · have h2' := of_decide_eq_false h2
      refine W.skip ?_
      refine W.seq ?_
      refine W.seq ?_
      refine W.reg ?_ -- 5
      refine WL.p (.mv rfl) rfl <| WL.p (.mv rfl) rfl <| WL.p (.ixb Tryz.underlying22 Tryz.sizeOf5 rfl rfl (hb.isp (by omega)) _ rfl (by omega)) rfl <| WL.r (Rd.ldc (Tryz.isAgg5 _) rfl (hb.cells _ (by omega))) rfl <| WL.c1 hb35 rfl rfl ((ref_Blank _ _)) (fun w7 hw7 => ?_)
      obtain rfl := hw7
      refine WL.p (.not rfl) rfl <| WL.nil <| ?_
      refine W.cond rfl (fun h8 => ?_) (fun h8 => ?_) -- slot 46
      · have h8' := (nT h8)
        refine W.seq ?_
        refine W.reg ?_ -- 6
        refine WL.p (.mv rfl) rfl <| WL.p (.as rfl) rfl <| WL.nil <| ?_
        refine W.ret (W.ret1 rfl rfl ?_)
        first
        | exact ⟨ret_int (by rw [skipAt_end false l s (by omega)] at hw; omega), rfl⟩
        | exact ⟨ret_int (by rw [← hw, hs, if_neg (u8_ne (by assumption)), if_neg (by simp_all)]), rfl⟩
      · have h8' := (nF h8)
        refine W.skip ?_
        refine W.reg ?_ -- 7
        refine WL.p (.mv rfl) rfl <| WL.p (.add rfl rfl (i64w (by omega))) rfl <| WL.p (.as rfl) rfl <| WL.nil <| ?_
        first
        | exact ⟨s + 1, ⟨rfl, lk_i rfl (by omega), trivial⟩, ⟨rfl, by omega, by rw [← hw, hs, if_neg (u8_ne (by assumption)), if_pos (by simp_all)]⟩, by omega⟩
        | exact ⟨t, ⟨rfl, lk_i rfl (by omega), trivial⟩, ⟨rfl, by omega, by omega⟩, by omega⟩
  · have h1' := of_decide_eq_false h1
    refine W.exit ?_ -- 0
    refine W.seq ?_
    refine W.reg ?_ -- 8
    refine WL.p (.mv rfl) rfl <| WL.p (.as rfl) rfl <| WL.nil <| ?_
    refine W.ret (W.ret1 rfl rfl ?_)
    first
    | exact ⟨ret_int (by rw [skipAt_end false l s (by omega)] at hw; omega), rfl⟩
    | exact ⟨ret_int (by rw [← hw, hs, if_neg (u8_ne (by assumption)), if_neg (by simp_all)]), rfl⟩

end Go.Proofs.YtjghbcjnplcleaaGreatDoor
