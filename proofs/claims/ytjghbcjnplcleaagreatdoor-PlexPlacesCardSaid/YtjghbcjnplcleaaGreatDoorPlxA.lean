/-
  Plex: the program's blanks, words, whole numbers.
-/
import Derived.Test.YtjghbcjnplcleaaGreatDoorScanM
import Derived.Test.YtjghbcjnplcleaaGreatDoorFwF
namespace Go.Proofs.YtjghbcjnplcleaaGreatDoor
open Go.RowKit

theorem plex_blank (c : UInt8) (w : World) :
    Calls Tryz.prog 34 #[.int .u8 (c.toNat : Int)] w fun e w' => e = .returned (.bool (blankB c)) ∧ w = w' := by
  refine W.enter Tryz.func34 rfl Tryz.ntmps34 (Nat.le_of_ble_eq_true rfl) ?_
  refine W.seq ?_
  refine W.reg ?_ -- 0
  refine WL.p (.as rfl) rfl <| WL.nil <| ?_
  refine W.seq ?_
  refine W.reg ?_ -- 1
  refine WL.p (.mv rfl) rfl <| WL.c1 hb60 rfl rfl ((lib_ib [0, 9, 10, 12, 13, 32] c _)) (fun w1 hw1 => ?_)
  obtain rfl := hw1
  refine WL.p (.bis (blankB c) (.geq rfl rfl) (by exact idx_blank c)) rfl <| WL.p (.as rfl) rfl <| WL.nil <| ?_
  refine W.ret (W.ret1 rfl rfl ?_)
  exact ⟨rfl, rfl⟩
theorem plex_regular (c : UInt8) (w : World) :
    Calls Tryz.prog 32 #[.int .u8 (c.toNat : Int)] w fun e w' => e = .returned (.bool (regB c)) ∧ w = w' := by
  refine W.enter Tryz.func32 rfl Tryz.ntmps32 (Nat.le_of_ble_eq_true rfl) ?_
  refine W.seq ?_
  refine W.reg ?_ -- 0
  refine WL.p (.as rfl) rfl <| WL.nil <| ?_
  refine W.seq ?_
  refine W.reg ?_ -- 1
  refine WL.p (.mv rfl) rfl <| WL.c1 hb34 rfl rfl ((plex_blank c _)) (fun w1 hw1 => ?_)
  obtain rfl := hw1
  refine WL.p (.not rfl) rfl <| WL.p (.mv rfl) rfl <| WL.gd rfl rfl rfl (fun g2 => ?_) (fun g2 => ?_)
  · have g2' := (nT g2)
    refine WL.p (.mv rfl) rfl <| WL.gy rfl rfl rfl (by rw [(nT g2)] <;> rfl) <| WL.c1 hb60 rfl rfl ((lib_ib [40, 41, 60, 62, 91, 93, 123, 125, 47, 37] c _)) (fun w3 hw3 => ?_)
    obtain rfl := hw3
    refine WL.gy rfl rfl rfl (by rw [(nT g2)] <;> rfl) <| WL.p (.bis (!delimB c) (.lss rfl rfl) (by exact idx_delim c)) rfl <| WL.p (.pkT rfl (by rw [(nT g2)] <;> rfl) rfl) rfl <| WL.p (.as rfl) rfl <| WL.nil <| ?_
    refine W.ret (W.ret1 rfl rfl ?_)
    exact ⟨ret_bool (by unfold regB; simp_all), rfl⟩
  · have g2' := (nF g2)
    refine WL.gn rfl rfl rfl (by rw [(nF g2)] <;> rfl) <| WL.gn rfl rfl rfl (by rw [(nF g2)] <;> rfl) <| WL.p (.pkF rfl (by rw [(nF g2)] <;> rfl) rfl) rfl <| WL.p (.as rfl) rfl <| WL.nil <| ?_
    refine W.ret (W.ret1 rfl rfl ?_)
    exact ⟨ret_bool (by unfold regB; simp_all), rfl⟩
/-- a place of bytes -/
def insA (l : List UInt8) (a : Int) : Nat := if a < 0 ∨ (l.length : Int) < a then l.length else a.toNat
theorem insA_le (l : List UInt8) (a : Int) : insA l a ≤ l.length := by unfold insA; split <;> omega
theorem insA_nat (l : List UInt8) (a : Nat) (h : a ≤ l.length) : insA l a = a := by unfold insA; rw [if_neg (by omega)]; omega
theorem plex_inside (p : Option Addr) (l : List UInt8) (c : Nat) (a : Int) (w : World) :
    Calls Tryz.prog 31 #[.slice p l.length c, .int .i64 a] w fun e w' => e = .returned (.int .i64 (insA l a : Int)) ∧ w = w' := by
  refine W.enter Tryz.func31 rfl Tryz.ntmps31 (Nat.le_of_ble_eq_true rfl) ?_
  refine W.seq ?_
  refine W.reg ?_ -- 0
  refine WL.p (.as rfl) rfl <| WL.nil <| ?_
  refine W.seq ?_
  refine W.cutB 12 (decide (a < 0 ∨ (l.length : Int) < a)) ?_ ?_
  · skip
    refine W.reg ?_ -- 1
    refine WL.p (.mv rfl) rfl <| WL.p (.lss rfl rfl) rfl <| WL.p (.mv rfl) rfl <| WL.gd rfl rfl rfl (fun g1 => ?_) (fun g1 => ?_)
    · have g1' := of_decide_eq_false g1
      refine WL.p (.mv rfl) rfl <| WL.gy rfl rfl rfl g1 <| WL.p (.mv rfl) rfl <| WL.gy rfl rfl rfl g1 <| WL.p (.lenS Tryz.underlying22 rfl) rfl <| WL.gy rfl rfl rfl g1 <| WL.p (.gtr rfl rfl) rfl <| WL.p (.pkF rfl g1 rfl) rfl <| WL.nil <| ?_
      exact ⟨⟨lk_b rfl (by (apply Bool.eq_iff_iff.2; (try simp) <;> omega)), by repeat (first | exact Le.refl _ | refine Le.cons rfl ?_)⟩, rfl⟩
    · have g1' := of_decide_eq_true g1
      refine WL.gn rfl rfl rfl g1 <| WL.gn rfl rfl rfl g1 <| WL.gn rfl rfl rfl g1 <| WL.p (.pkT rfl g1 rfl) rfl <| WL.nil <| ?_
      exact ⟨⟨lk_b rfl (by (apply Bool.eq_iff_iff.2; (try simp) <;> omega)), by repeat (first | exact Le.refl _ | refine Le.cons rfl ?_)⟩, rfl⟩
  refine W.cond rfl (fun h2 => ?_) (fun h2 => ?_) -- slot 12
  · have h2' := of_decide_eq_true h2
    refine W.seq ?_
    refine W.reg ?_ -- 2
    refine WL.p (.mv rfl) rfl <| WL.p (.lenS Tryz.underlying22 rfl) rfl <| WL.p (.as rfl) rfl <| WL.nil <| ?_
    refine W.ret (W.ret1 rfl rfl ?_)
    first
    | exact ⟨ret_int (by unfold insA; rw [if_pos (by assumption)]), rfl⟩
    | exact ⟨ret_int (by unfold insA; rw [if_neg (by assumption)]; omega), rfl⟩
  · have h2' := of_decide_eq_false h2
    refine W.skip ?_
    refine W.seq ?_
    refine W.reg ?_ -- 3
    refine WL.p (.mv rfl) rfl <| WL.p (.as rfl) rfl <| WL.nil <| ?_
    refine W.ret (W.ret1 rfl rfl ?_)
    first
    | exact ⟨ret_int (by unfold insA; rw [if_pos (by assumption)]), rfl⟩
    | exact ⟨ret_int (by unfold insA; rw [if_neg (by assumption)]; omega), rfl⟩

theorem plex_Skip (p : Option Addr) (l : List UInt8) (c : Nat) (a : Int) (w : World) (hb : BytesAt w p l) (hl : l.length ≤ 1000000) :
    Calls Tryz.prog 13 #[.slice p l.length c, .int .i64 a] w fun e w' => e = .returned (.int .i64 (skipAt false l (insA l a) : Int)) ∧ w = w' := by
  obtain ⟨R, hR⟩ : ∃ R, R = skipAt false l (insA l a) := ⟨_, rfl⟩
  have ha := insA_le l a
  rw [← hR]
  refine W.enter Tryz.func13 rfl Tryz.ntmps13 (Nat.le_of_ble_eq_true rfl) ?_
  refine W.seq ?_
  refine W.reg ?_ -- 0
  refine WL.p (.as rfl) rfl <| WL.nil <| ?_
  refine W.seq ?_
  refine W.reg ?_ -- 1
  refine WL.p (.mv rfl) rfl <| WL.p (.mv rfl) rfl <| WL.c1 hb31 rfl rfl ((plex_inside p l c a _)) (fun w1 hw1 => ?_)
  obtain rfl := hw1
  refine WL.p (.as rfl) rfl <| WL.nil <| ?_
  refine W.seq ?_
  refine W.block ?_
  -- loop 1: writes [1, 4, 5, 9, 10, 11, 12, 13, 14, 15, 16, 17, 18, 19, 20, 21, 22, 23, 24, 25, 26, 27, 28, 29, 30, 31, 32, 33, 34, 35, 36, 37, 38, 39, 40, 41, 42, 43, 44, 45, 46, 47, 48, 49, 50, 51, 52]; reads from outside [0, 1]
  refine W.loop (α := Nat) (fun t => [(0, .slice p l.length c), (1, .int .i64 (t : Int))]) (fun t w' => w = w' ∧ t ≤ l.length ∧ skipAt false l t = R) (fun t => l.length - t) (insA l a) ⟨rfl, rfl, trivial⟩ (⟨rfl, ha, hR.symm⟩) (fun t w1 hR => ?_)
  obtain ⟨rfl, ht, hw⟩ := hR
  obtain ⟨s, rfl⟩ : ∃ s, s = t := ⟨t, rfl⟩
  refine W.seq ?_
  refine W.seq ?_
  refine W.reg ?_ -- 2
  refine WL.p (.mv rfl) rfl <| WL.p (.mv rfl) rfl <| WL.p (.lenS Tryz.underlying22 rfl) rfl <| WL.p (.lss rfl rfl) rfl <| WL.nil <| ?_
  refine W.cond rfl (fun h2 => ?_) (fun h2 => ?_) -- slot 12
  · have h2' := of_decide_eq_true h2
    refine W.skip ?_
    refine W.block ?_
    refine W.seq ?_
    refine W.reg ?_ -- 3
    have hs := skipAt_f l s (by omega)
    have hs' : l[s]! = l[s]'(by omega) := getElem!_pos l s (by omega)
    refine WL.p (.mv rfl) rfl <| WL.p (.mv rfl) rfl <| WL.p (.ixb Tryz.underlying22 Tryz.sizeOf5 rfl rfl (hb.isp (by omega)) (s) (rfl) (by omega)) rfl <| WL.r (Rd.ldc (Tryz.isAgg5 _) rfl (hb.cells (s) (by omega))) rfl <| WL.p (.as rfl) rfl <| WL.nil <| ?_
    refine W.block ?_
    refine W.seq ?_
    refine W.reg ?_ -- 5
    refine WL.p (.mv rfl) rfl <| WL.c1 hb34 rfl rfl ((plex_blank _ _)) (fun w3 hw3 => ?_)
    obtain rfl := hw3
    refine WL.p (.as rfl) rfl <| WL.nil <| ?_
    refine W.cond rfl (fun h4 => ?_) (fun h4 => ?_) -- slot 18
    · have h4' := h4
      refine W.reg ?_ -- 6
      refine WL.p (.mv rfl) rfl <| WL.p (.add rfl rfl (i64w (by omega))) rfl <| WL.p (.as rfl) rfl <| WL.nil <| ?_
      first
      | exact ⟨s + 1, ⟨rfl, lk_i rfl (by omega), trivial⟩, ⟨rfl, by omega, by rw [← hw, hs, if_neg (by rintro e; simp_all [blankB]), if_pos (by simp_all)]⟩, by omega⟩
      | exact ⟨t, ⟨rfl, lk_i rfl (by omega), trivial⟩, ⟨rfl, by omega, by omega⟩, by omega⟩
    · have h4' := h4
      refine W.seq ?_
      refine W.reg ?_ -- 7
      refine WL.p (.mv rfl) rfl <| WL.p (.eql rfl rfl) rfl <| WL.p (.as rfl) rfl <| WL.nil <| ?_
      refine W.cond rfl (fun h5 => ?_) (fun h5 => ?_) -- slot 23
      · have h5' := of_decide_eq_true h5
        refine W.block ?_
        -- loop 2: writes [1, 26, 27, 28, 29, 30, 31, 32, 33, 34, 35, 36, 37, 38, 39, 40, 41, 42, 43, 44, 45, 46, 47, 48, 49, 50, 51, 52]; reads from outside [0, 1]
        refine W.loop (α := Nat) (fun t => [(0, .slice p l.length c), (1, .int .i64 (t : Int))]) (fun t w' => w = w' ∧ s ≤ t ∧ t ≤ l.length ∧ skipAt true l t = R ∧ (t = s → l[s]'(by omega) = 37)) (fun t => l.length - t) (s) ⟨rfl, rfl, trivial⟩ (⟨rfl, by omega, by omega, by rw [skipAt_t l s (by omega), if_neg (by rw [show l[s] = 37 from u8_eq (by assumption)]; decide), ← hw, hs, if_pos (u8_eq (by assumption))], fun _ => u8_eq (by assumption)⟩) (fun t w1 hR => ?_)
        obtain ⟨rfl, hst, ht2, hw2, h37⟩ := hR
        refine W.seq ?_
        refine W.cutB 50 (cmtB l t) ?_ ?_
        · skip
          refine W.reg ?_ -- 8
          refine WL.p (.mv rfl) rfl <| WL.p (.mv rfl) rfl <| WL.p (.lenS Tryz.underlying22 rfl) rfl <| WL.p (.lss rfl rfl) rfl <| WL.p (.mv rfl) rfl <| WL.gd rfl rfl rfl (fun g6 => ?_) (fun g6 => ?_)
          · have g6' := of_decide_eq_true g6
            refine WL.p (.mv rfl) rfl <| WL.gy rfl rfl rfl g6 <| WL.p (.mv rfl) rfl <| WL.gy rfl rfl rfl g6 <| WL.p (.ixb Tryz.underlying22 Tryz.sizeOf5 rfl rfl (hb.isp (by omega)) (t) (rfl) (by omega)) rfl <| WL.gy rfl rfl rfl g6 <| WL.r (Rd.ldc (Tryz.isAgg5 _) rfl (hb.cells (t) (by omega))) rfl <| WL.gy rfl rfl rfl g6 <| WL.p (.neq rfl rfl) rfl <| WL.p (.pkT rfl g6 rfl) rfl <| WL.p (.mv rfl) rfl <| WL.gd rfl rfl rfl (fun g7 => ?_) (fun g7 => ?_)
            · have g7' := ndT g7
              refine WL.p (.mv rfl) rfl <| WL.gy rfl rfl rfl g7 <| WL.p (.mv rfl) rfl <| WL.gy rfl rfl rfl g7 <| WL.p (.ixb Tryz.underlying22 Tryz.sizeOf5 rfl rfl (hb.isp (by omega)) (t) (rfl) (by omega)) rfl <| WL.gy rfl rfl rfl g7 <| WL.r (Rd.ldc (Tryz.isAgg5 _) rfl (hb.cells (t) (by omega))) rfl <| WL.gy rfl rfl rfl g7 <| WL.p (.neq rfl rfl) rfl <| WL.p (.pkT rfl g7 rfl) rfl <| WL.p (.mv rfl) rfl <| WL.gd rfl rfl rfl (fun g8 => ?_) (fun g8 => ?_)
              · have g8' := ndT g8
                refine WL.p (.mv rfl) rfl <| WL.gy rfl rfl rfl g8 <| WL.p (.mv rfl) rfl <| WL.gy rfl rfl rfl g8 <| WL.p (.ixb Tryz.underlying22 Tryz.sizeOf5 rfl rfl (hb.isp (by omega)) (t) (rfl) (by omega)) rfl <| WL.gy rfl rfl rfl g8 <| WL.r (Rd.ldc (Tryz.isAgg5 _) rfl (hb.cells (t) (by omega))) rfl <| WL.gy rfl rfl rfl g8 <| WL.p (.neq rfl rfl) rfl <| WL.p (.pkT rfl g8 rfl) rfl <| WL.nil <| ?_
                exact ⟨⟨lk_b rfl (by (by_cases hq : t < l.length) <;> (unfold cmtB; first | (exfalso; omega) | (rw [getElem!_pos l t hq]; simp_all; done) | (rw [decide_eq_false hq]; simp_all; done))), by repeat (first | exact Le.refl _ | refine Le.cons rfl ?_)⟩, rfl⟩
              · have g8' := ndF g8
                refine WL.gn rfl rfl rfl g8 <| WL.gn rfl rfl rfl g8 <| WL.gn rfl rfl rfl g8 <| WL.gn rfl rfl rfl g8 <| WL.p (.pkF rfl g8 rfl) rfl <| WL.nil <| ?_
                exact ⟨⟨lk_b rfl (by (by_cases hq : t < l.length) <;> (unfold cmtB; first | (exfalso; omega) | (rw [getElem!_pos l t hq]; simp_all; done) | (rw [decide_eq_false hq]; simp_all; done))), by repeat (first | exact Le.refl _ | refine Le.cons rfl ?_)⟩, rfl⟩
            · have g7' := ndF g7
              refine WL.gn rfl rfl rfl g7 <| WL.gn rfl rfl rfl g7 <| WL.gn rfl rfl rfl g7 <| WL.gn rfl rfl rfl g7 <| WL.p (.pkF rfl g7 rfl) rfl <| WL.p (.mv rfl) rfl <| WL.gn rfl rfl rfl rfl <| WL.gn rfl rfl rfl rfl <| WL.gn rfl rfl rfl rfl <| WL.gn rfl rfl rfl rfl <| WL.gn rfl rfl rfl rfl <| WL.p (.pkF rfl rfl rfl) rfl <| WL.nil <| ?_
              exact ⟨⟨lk_b rfl (by (by_cases hq : t < l.length) <;> (unfold cmtB; first | (exfalso; omega) | (rw [getElem!_pos l t hq]; simp_all; done) | (rw [decide_eq_false hq]; simp_all; done))), by repeat (first | exact Le.refl _ | refine Le.cons rfl ?_)⟩, rfl⟩
          · have g6' := of_decide_eq_false g6
            refine WL.gn rfl rfl rfl g6 <| WL.gn rfl rfl rfl g6 <| WL.gn rfl rfl rfl g6 <| WL.gn rfl rfl rfl g6 <| WL.p (.pkF rfl g6 rfl) rfl <| WL.p (.mv rfl) rfl <| WL.gn rfl rfl rfl rfl <| WL.gn rfl rfl rfl rfl <| WL.gn rfl rfl rfl rfl <| WL.gn rfl rfl rfl rfl <| WL.gn rfl rfl rfl rfl <| WL.p (.pkF rfl rfl rfl) rfl <| WL.p (.mv rfl) rfl <| WL.gn rfl rfl rfl rfl <| WL.gn rfl rfl rfl rfl <| WL.gn rfl rfl rfl rfl <| WL.gn rfl rfl rfl rfl <| WL.gn rfl rfl rfl rfl <| WL.p (.pkF rfl rfl rfl) rfl <| WL.nil <| ?_
            exact ⟨⟨lk_b rfl (by (by_cases hq : t < l.length) <;> (unfold cmtB; first | (exfalso; omega) | (rw [getElem!_pos l t hq]; simp_all; done) | (rw [decide_eq_false hq]; simp_all; done))), by repeat (first | exact Le.refl _ | refine Le.cons rfl ?_)⟩, rfl⟩
        refine W.cond rfl (fun h9 => ?_) (fun h9 => ?_) -- slot 50
        · have h9' := h9
          obtain ⟨hk1, hk2⟩ := cmtB_t (by assumption)
          rw [skipAt_t l t hk1, hk2, if_neg (by simp)] at hw2
          refine W.skip ?_
          refine W.block ?_
          refine W.reg ?_ -- 9
          refine WL.p (.mv rfl) rfl <| WL.p (.add rfl rfl (i64w (by omega))) rfl <| WL.p (.as rfl) rfl <| WL.nil <| ?_
          exact ⟨t + 1, ⟨rfl, lk_i rfl (by omega), trivial⟩, ⟨rfl, by omega, by omega, by omega, fun h => by omega⟩, by omega⟩
        · have h9' := h9
          obtain ⟨hk1, hk2⟩ := cmtB_f (by assumption)
          have hk3 : t ≠ s := fun e => by subst e; exact hk2 (by omega) (h37 rfl)
          refine W.exit ?_ -- 3
          first
          | exact ⟨s + 1, ⟨rfl, lk_i rfl (by omega), trivial⟩, ⟨rfl, by omega, by rw [← hw, hs, if_neg (by rintro e; simp_all [blankB]), if_pos (by simp_all)]⟩, by omega⟩
          | exact ⟨t, ⟨rfl, lk_i rfl (by omega), trivial⟩, ⟨rfl, by omega, by omega⟩, by omega⟩
      · have h5' := of_decide_eq_false h5
        refine W.seq ?_
        refine W.reg ?_ -- 4
        refine WL.p (.mv rfl) rfl <| WL.p (.as rfl) rfl <| WL.nil <| ?_
        refine W.ret (W.ret1 rfl rfl ?_)
        first
        | exact ⟨ret_int (by rw [skipAt_end false l s (by omega)] at hw; omega), rfl⟩
        | exact ⟨ret_int (by rw [← hw, hs, if_neg (u8_ne (by assumption)), if_neg (by simp_all)]), rfl⟩
  · have h2' := of_decide_eq_false h2
    refine W.exit ?_ -- 0
    refine W.seq ?_
    refine W.reg ?_ -- 10
    refine WL.p (.mv rfl) rfl <| WL.p (.as rfl) rfl <| WL.nil <| ?_
    refine W.ret (W.ret1 rfl rfl ?_)
    first
    | exact ⟨ret_int (by rw [skipAt_end false l s (by omega)] at hw; omega), rfl⟩
    | exact ⟨ret_int (by rw [← hw, hs, if_neg (u8_ne (by assumption)), if_neg (by simp_all)]), rfl⟩

/-- the regular bytes at a place -/
def wordL (l : List UInt8) (a : Nat) : List UInt8 := (l.drop a).take (wordAt l a - a)
theorem wordL_eq (l : List UInt8) (a : Nat) : wordL l a = (l.drop a).takeWhile regB := word_take l a
theorem plex_Word (p : Option Addr) (l : List UInt8) (c : Nat) (a : Int) (w : World) (hb : BytesAt w p l) (hc : l.length ≤ c) (hl : l.length ≤ 1000000) :
    Calls Tryz.prog 11 #[.slice p l.length c, .int .i64 a] w fun e w' => e = .returned (.tuple #[.string (bs (wordL l (insA l a))), .int .i64 (wordAt l (insA l a) : Int)]) ∧ w = w' := by
  obtain ⟨R, hR⟩ : ∃ R, R = wordAt l (insA l a) := ⟨_, rfl⟩
  have ha := insA_le l a
  have hwl := wordAt_le l (insA l a) ha
  unfold wordL
  rw [← hR] at hwl ⊢
  refine W.enter Tryz.func11 rfl Tryz.ntmps11 (Nat.le_of_ble_eq_true rfl) ?_
  refine W.seq ?_
  refine W.reg ?_ -- 0
  refine WL.p (.as rfl) rfl <| WL.p (.as rfl) rfl <| WL.nil <| ?_
  refine W.seq ?_
  refine W.reg ?_ -- 1
  refine WL.p (.mv rfl) rfl <| WL.p (.mv rfl) rfl <| WL.c1 hb31 rfl rfl ((plex_inside p l c a _)) (fun w1 hw1 => ?_)
  obtain rfl := hw1
  refine WL.p (.as rfl) rfl <| WL.nil <| ?_
  refine W.seq ?_
  refine W.reg ?_ -- 2
  refine WL.p (.mv rfl) rfl <| WL.p (.as rfl) rfl <| WL.nil <| ?_
  refine W.seq ?_
  refine W.block ?_
  -- loop 1: writes [5, 10, 11, 12, 13, 14, 15, 16, 17, 18, 19, 20, 21, 22]; reads from outside [0, 5]
  refine W.loop (α := Nat) (fun t => [(0, .slice p l.length c), (1, .int .i64 (insA l a : Int)), (5, .int .i64 (t : Int))]) (fun t w' => w = w' ∧ t ≤ l.length ∧ wordAt l t = R) (fun t => l.length - t) (insA l a) ⟨rfl, rfl, rfl, trivial⟩ (⟨rfl, ha, hR.symm⟩) (fun t w1 hR => ?_)
  obtain ⟨rfl, ht, hw⟩ := hR
  refine W.seq ?_
  refine W.seq ?_
  refine W.reg ?_ -- 3
  refine WL.p (.mv rfl) rfl <| WL.p (.mv rfl) rfl <| WL.p (.lenS Tryz.underlying22 rfl) rfl <| WL.p (.lss rfl rfl) rfl <| WL.p (.mv rfl) rfl <| WL.gd rfl rfl rfl (fun g2 => ?_) (fun g2 => ?_)
  · have g2' := of_decide_eq_true g2
    have hs := takeWhile_drop regB l t (by omega)
    refine WL.p (.mv rfl) rfl <| WL.gy rfl rfl rfl g2 <| WL.p (.mv rfl) rfl <| WL.gy rfl rfl rfl g2 <| WL.p (.ixb Tryz.underlying22 Tryz.sizeOf5 rfl rfl (hb.isp (by omega)) (t) (rfl) (by omega)) rfl <| WL.gy rfl rfl rfl g2 <| WL.r (Rd.ldc (Tryz.isAgg5 _) rfl (hb.cells (t) (by omega))) rfl <| WL.gy rfl rfl rfl g2 <| WL.c1 hb32 rfl rfl ((plex_regular _ _)) (fun w3 hw3 => ?_)
    obtain rfl := hw3
    refine WL.p (.pkT rfl g2 rfl) rfl <| WL.nil <| ?_
    refine W.cond rfl (fun h4 => ?_) (fun h4 => ?_) -- slot 20
    · have h4' := h4
      refine W.skip ?_
      refine W.block ?_
      refine W.reg ?_ -- 4
      refine WL.p (.mv rfl) rfl <| WL.p (.add rfl rfl (i64w (by omega))) rfl <| WL.p (.as rfl) rfl <| WL.nil <| ?_
      exact ⟨t + 1, ⟨rfl, rfl, lk_i rfl (by omega), trivial⟩, ⟨rfl, by omega, by unfold wordAt at hw ⊢; rw [hs, if_pos (by assumption), List.length_cons] at hw; omega⟩, by omega⟩
    · have h4' := h4
      refine W.exit ?_ -- 0
      refine W.seq ?_
      have htR : t = R := by
        by_cases hq : t < l.length
        · have hs := takeWhile_drop regB l t hq
          unfold wordAt at hw; rw [hs, if_neg (by simp_all), List.length_nil] at hw; omega
        · unfold wordAt at hw; rw [List.drop_eq_nil_of_le (by omega)] at hw; simp at hw; omega
      refine W.reg ?_ -- 5
      refine WL.p (.mv rfl) rfl <| WL.p (.mv rfl) rfl <| WL.p (.mv rfl) rfl <| WL.p (.slb Tryz.underlying22 Tryz.sizeOf5 rfl rfl rfl  (insA l a) (R) (rfl) (by omega) (by omega) (by omega)) rfl <| WL.r (Rd.b2sPart Tryz.underlying22 Tryz.underlying5 Tryz.underlying9 rfl rfl hb (by omega) (by omega) (by omega)) rfl <| WL.p (.mv rfl) rfl <| WL.p (.as rfl) rfl <| WL.p (.as rfl) rfl <| WL.nil <| ?_
      refine W.ret (W.ret2 rfl rfl rfl ?_)
      exact ⟨ret_val (by subst htR; rfl), rfl⟩
  · have g2' := of_decide_eq_false g2
    refine WL.gn rfl rfl rfl g2 <| WL.gn rfl rfl rfl g2 <| WL.gn rfl rfl rfl g2 <| WL.gn rfl rfl rfl g2 <| WL.p (.pkF rfl g2 rfl) rfl <| WL.nil <| ?_
    refine W.condF rfl rfl ?_
    refine W.exit ?_ -- 0
    refine W.seq ?_
    have htR : t = R := by
      by_cases hq : t < l.length
      · have hs := takeWhile_drop regB l t hq
        unfold wordAt at hw; rw [hs, if_neg (by simp_all), List.length_nil] at hw; omega
      · unfold wordAt at hw; rw [List.drop_eq_nil_of_le (by omega)] at hw; simp at hw; omega
    refine W.reg ?_ -- 5
    refine WL.p (.mv rfl) rfl <| WL.p (.mv rfl) rfl <| WL.p (.mv rfl) rfl <| WL.p (.slb Tryz.underlying22 Tryz.sizeOf5 rfl rfl rfl  (insA l a) (R) (rfl) (by omega) (by omega) (by omega)) rfl <| WL.r (Rd.b2sPart Tryz.underlying22 Tryz.underlying5 Tryz.underlying9 rfl rfl hb (by omega) (by omega) (by omega)) rfl <| WL.p (.mv rfl) rfl <| WL.p (.as rfl) rfl <| WL.p (.as rfl) rfl <| WL.nil <| ?_
    refine W.ret (W.ret2 rfl rfl rfl ?_)
    exact ⟨ret_val (by subst htR; rfl), rfl⟩

theorem lib_trim (l cs : List UInt8) (w : World) (hl : l.length ≤ 1000000) (hc : cs.length ≤ 1000) (ha : ∀ b ∈ cs, b.toNat < 128) :
    Calls Tryz.prog 116 #[.string (bs l), .string (bs cs)] w fun e w' => e = .returned (.string (bs (Lib.trimS l cs))) ∧ Below w.heap.size w w' := by
  refine (Any.strings_Trim_laid Tryz.lays160 (by kernel_rfl) (bs l) (bs cs) w (by rw [bs_size]; omega) (by rw [bs_size]; omega) ?_).mono fun e w' h => ⟨?_, h.2⟩
  · intro j b hb
    have : (bs cs).data.toList = cs := by simp [bs]
    rw [this] at hb
    exact ha b (List.mem_of_getElem? hb)
  · rw [h.1]
    have h1 : (bs l).data.toList = l := by simp [bs]
    have h2 : (bs cs).data.toList = cs := by simp [bs]
    rw [h1, h2]; rfl
theorem trim_dig (l : List UInt8) : (decide (Lib.trimS l [48, 49, 50, 51, 52, 53, 54, 55, 56, 57] = [])) = l.all isDig := by
  have : (fun x => ([48, 49, 50, 51, 52, 53, 54, 55, 56, 57] : List UInt8).contains x) = isDig := funext digs_contains
  rw [Bool.eq_iff_iff, decide_eq_true_eq, trimS_nil_iff, this]

/-- a number of digits alone -/
def wholeOk (s : List UInt8) : Bool := !decide (s = []) && decide (s.length ≤ 10) && s.all isDig
def wholeV (s : List UInt8) (most : Int) : Int × Bool := if wholeOk s then ((natOf s : Int), decide ((natOf s : Int) ≤ most)) else (0, false)
theorem plex_whole (s : List UInt8) (most : Int) (w : World) (hl : s.length ≤ 1000000) :
    Calls Tryz.prog 113 #[.string (bs s), .int .i64 most] w fun e w' => e = .returned (.tuple #[.int .i64 (wholeV s most).1, .bool (wholeV s most).2]) ∧ Below w.heap.size w w' := by
  refine W.enter Tryz.func113 rfl Tryz.ntmps113 (Nat.le_of_ble_eq_true rfl) ?_
  have hB0 := Below.refl (w.heap.size) w
  refine W.seq ?_
  refine W.reg ?_ -- 0
  refine WL.p (.as rfl) rfl <| WL.p (.as rfl) rfl <| WL.nil <| ?_
  refine W.seq ?_
  refine W.cut (α := Unit) (fun t => [(0, .string (bs s)), (1, .int .i64 most), (4, .int .i64 0), (5, .bool false), (20, .bool (!wholeOk s))]) (fun t w' => Below w.heap.size w w') ?_ (fun t w1 hR => ?_)
  · skip
    refine W.reg ?_ -- 1
    refine WL.p (.mv rfl) rfl <| WL.p (.eqs rfl rfl) rfl <| WL.p (.mv rfl) rfl <| WL.gd rfl rfl rfl (fun g1 => ?_) (fun g1 => ?_)
    · have g1' := of_decide_eq_false g1
      refine WL.p (.mv rfl) rfl <| WL.gy rfl rfl rfl g1 <| WL.p (.len Tryz.underlying9 rfl) rfl <| WL.gy rfl rfl rfl g1 <| WL.p (.gtr rfl rfl) rfl <| WL.p (.pkF rfl g1 rfl) rfl <| WL.p (.mv rfl) rfl <| WL.gd rfl rfl rfl (fun g2 => ?_) (fun g2 => ?_)
      · have g2' := of_decide_eq_false g2
        refine WL.p (.mv rfl) rfl <| WL.gy rfl rfl rfl g2 <| WL.c1 hb116 rfl rfl ((lib_trim s [48, 49, 50, 51, 52, 53, 54, 55, 56, 57] _ hl (by decide) (by decide))) (fun w3 hw3 => ?_)
        have hB4 := btr hB0 hw3
        refine WL.gy rfl rfl rfl g2 <| WL.p (.bis (!s.all isDig) (.nes rfl rfl) (by rw [trim_dig])) rfl <| WL.p (.pkF rfl g2 rfl) rfl <| WL.nil <| ?_
        -- join r1.meet/1
        exact ⟨(), ⟨rfl, rfl, rfl, rfl, lk_b rfl (by unfold wholeOk; first | (simp_all; done) | (simp_all; omega)), trivial⟩, hB4⟩
        -- met
      · have g2' := of_decide_eq_true g2
        refine WL.gn rfl rfl rfl g2 <| WL.gn rfl rfl rfl g2 <| WL.p (.pkT rfl g2 rfl) rfl <| WL.nil <| ?_
        -- join r1.meet/2
        exact ⟨(), ⟨rfl, rfl, rfl, rfl, lk_b rfl (by unfold wholeOk; first | (simp_all; done) | (simp_all; omega)), trivial⟩, hB0⟩
        -- met
    · have g1' := of_decide_eq_true g1
      refine WL.gn rfl rfl rfl g1 <| WL.gn rfl rfl rfl g1 <| WL.p (.pkT rfl g1 rfl) rfl <| WL.p (.mv rfl) rfl <| WL.gn rfl rfl rfl rfl <| WL.gn rfl rfl rfl rfl <| WL.gn rfl rfl rfl rfl <| WL.p (.pkT rfl rfl rfl) rfl <| WL.nil <| ?_
      -- join r1.meet/3
      exact ⟨(), ⟨rfl, rfl, rfl, rfl, lk_b rfl (by unfold wholeOk; first | (simp_all; done) | (simp_all; omega)), trivial⟩, hB0⟩
      -- met
  have hBj := hR
  refine W.cond rfl (fun h5 => ?_) (fun h5 => ?_) -- slot 20
  · skip
    have hno : wholeOk s = false := by simp_all
    refine W.seq ?_
    refine W.reg ?_ -- 2
    refine WL.p (.as rfl) rfl <| WL.p (.as rfl) rfl <| WL.nil <| ?_
    refine W.ret (W.ret2 rfl rfl rfl ?_)
    first
    | exact ⟨ret_ib (by unfold wholeV; rw [hno]; rfl) (by unfold wholeV; rw [hno]; rfl), hBj⟩
    | exact ⟨ret_ib (by unfold wholeV; rw [hok]; rfl) (by unfold wholeV; rw [hok]; rfl), hBj⟩
  · skip
    have hok : wholeOk s = true := by simp_all
    have hok' := hok
    unfold wholeOk at hok'
    simp only [Bool.and_eq_true, decide_eq_true_eq, Bool.not_eq_true', decide_eq_false_iff_not] at hok'
    have hdig := List.all_eq_true.1 hok'.2
    refine W.skip ?_
    refine W.seq ?_
    refine W.reg ?_ -- 3
    refine WL.p (.as rfl) rfl <| WL.nil <| ?_
    refine W.seq ?_
    refine W.seq ?_
    refine W.reg ?_ -- 4
    refine WL.p (.mv rfl) rfl <| WL.s2b Tryz.underlying9 Tryz.underlying22 Tryz.underlying5 rfl rfl (fun b6 wb6 cz eb6 hz hcz hub6 hsb6 => ?_)
    have hB7 := Upd.below hBj (by rw [eb6]; exact hBj.size) hub6
    have hgeb6 : w.heap.size ≤ b6 := by rw [eb6]; exact hBj.size
    refine WL.p (.lenS Tryz.underlying22 rfl) rfl <| WL.p (.mv rfl) rfl <| WL.nil <| ?_
    refine W.block ?_
    -- loop 1: writes [6, 8, 24, 25, 26, 27, 28, 29, 30, 31, 32, 33, 34]; reads from outside [6, 22, 23, 24]
    refine W.loop (α := Nat) (fun t => [(0, .string (bs s)), (1, .int .i64 most), (6, .int .i64 (natOf (s.take t) : Int)), (22, .slice (some ⟨b6, 0, none⟩) s.length cz), (23, .int .i64 (s.length : Int)), (24, .int .i64 (t : Int))]) (fun t w' => wb6 = w' ∧ t ≤ s.length) (fun t => s.length - t) (0) ⟨rfl, rfl, rfl, rfl, rfl, rfl, trivial⟩ (⟨rfl, Nat.zero_le _⟩) (fun t w1 hR => ?_)
    obtain ⟨i, rfl⟩ : ∃ i, i = t := ⟨t, rfl⟩
    obtain ⟨rfl, hi⟩ := hR
    refine W.seq ?_
    refine W.reg ?_ -- 5
    refine WL.p (.lss rfl rfl) rfl <| WL.nil <| ?_
    refine W.seq ?_
    refine W.cond rfl (fun h8 => ?_) (fun h8 => ?_) -- slot 25
    · have h8' := of_decide_eq_true h8
      refine W.skip ?_
      refine W.seq ?_
      refine W.block ?_
      refine W.seq ?_
      refine W.reg ?_ -- 6
      refine WL.p (.ixb Tryz.underlying22 Tryz.sizeOf5 rfl rfl (hz.isp (by omega)) (i) (rfl) (by omega)) rfl <| WL.r (Rd.ldc (Tryz.isAgg5 _) rfl (hz.cells (i) (by omega))) rfl <| WL.p (.as rfl) rfl <| WL.nil <| ?_
      have hst := natOf_take s i (by omega)
      have hbd := isDig_bounds (hdig _ (List.getElem_mem (show i < s.length by omega)))
      have hlt := natOf_lt (s.take i) (fun c hc => hdig c (List.mem_of_mem_take hc))
      have hpw : 10 ^ (s.take i).length ≤ 10 ^ 9 := Nat.pow_le_pow_right (by omega) (by rw [List.length_take]; omega)
      refine W.reg ?_ -- 7
      refine WL.p (.mv rfl) rfl <| WL.p (.mul rfl rfl (i64w (by omega))) rfl <| WL.p (.mv rfl) rfl <| WL.p (.sub rfl rfl (u8w (by omega))) rfl <| WL.p (.cvt Tryz.underlying5 Tryz.underlying3 rfl (i64w (by omega))) rfl <| WL.p (.iis ((natOf (s.take (i + 1)) : Int)) (.add rfl rfl (i64w (by omega))) (by omega)) rfl <| WL.p (.as rfl) rfl <| WL.nil <| ?_
      refine W.reg ?_ -- 8
      refine WL.p (.iis (((i + 1 : Nat) : Int)) (.add rfl rfl (i64w (by omega))) (by omega)) rfl <| WL.p (.mv rfl) rfl <| WL.nil <| ?_
      exact ⟨i + 1, ⟨rfl, rfl, rfl, rfl, rfl, rfl, trivial⟩, ⟨rfl, by ((try simp only) <;> omega)⟩, by ((try simp only) <;> omega)⟩
    · have h8' := of_decide_eq_false h8
      refine W.exit ?_ -- 0
      refine W.seq ?_
      obtain rfl : i = s.length := by omega
      rw [List.take_length]
      refine W.reg ?_ -- 9
      refine WL.p (.mv rfl) rfl <| WL.p (.mv rfl) rfl <| WL.p (.mv rfl) rfl <| WL.p (.leq rfl rfl) rfl <| WL.p (.as rfl) rfl <| WL.p (.as rfl) rfl <| WL.nil <| ?_
      refine W.ret (W.ret2 rfl rfl rfl ?_)
      first
      | exact ⟨ret_ib (by unfold wholeV; rw [hno]; rfl) (by unfold wholeV; rw [hno]; rfl), hB7⟩
      | exact ⟨ret_ib (by unfold wholeV; rw [hok]; rfl) (by unfold wholeV; rw [hok]; rfl), hB7⟩

end Go.Proofs.YtjghbcjnplcleaaGreatDoor
