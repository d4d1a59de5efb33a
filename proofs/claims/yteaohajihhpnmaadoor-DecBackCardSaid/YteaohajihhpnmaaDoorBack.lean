/-
  The law DecBack, walked.
-/
import Derived.Test.YteaohajihhpnmaaDoorBackP
import Derived.Test.YteaohajihhpnmaaDoorAns
import Derived.Test.YteaohajihhpnmaaDoorFwHb
namespace Go.Proofs.YteaohajihhpnmaaDoor
open Go.RowKit

theorem parse_is (l : List UInt8) (n : Int) (w : World) (hl : l.length ≤ 64) (hp : parseL l = (n, true)) :
    Calls Tryd.prog 15 #[.string (bs l)] w fun e w' => e = .returned (.tuple #[.int .i64 n, .bool true]) ∧ Below w.heap.size w w' := by
  have := dec_Parse_short l w hl
  rwa [hp] at this
theorem token_is (l : List UInt8) (t : TokR) (w : World) (ht : tokenL l = t) :
    Calls Tryd.prog 17 #[.string (bs l)] w fun e w' => e = .returned t.val ∧ Below w.heap.size w w' := ht ▸ dec_Token l w

theorem token_real (l : List UInt8) (n : Int) (w : World) (ht : tokenL l = tokReal n) :
    Calls Tryd.prog 17 #[.string (bs l)] w fun e w' => e = .returned (.tuple #[.agg #[.int .i64 2, .int .i64 n, .string ⟨#[]⟩], .bool true, .int .i64 0]) ∧ Below w.heap.size w w' := token_is l _ w ht
theorem first_sgn (m : Option Bool) (n : Int) (hm : m = if n < 0 then some true else none) (l : List UInt8) (h : ∀ c r, l = c :: r → isDig c = true) (h0 : 0 < (sgn m ++ l).length) : decide (((sgn m ++ l)[0].toNat : Int) = 45) = decide (n < 0) := by
  by_cases hn : n < 0
  · rw [if_pos hn] at hm; subst hm; rw [decide_eq_true hn]; rfl
  · rw [if_neg hn] at hm; subst hm
    rw [decide_eq_false hn]
    cases l with
    | nil => simp [sgn] at h0
    | cons c r =>
      have hc := isDig_bounds (h c r rfl)
      exact decide_eq_false (by show ¬ ((c.toNat : Int) = 45); omega)

theorem law_plus (l : List UInt8) (n : Int) (w : World) (hl : l.length ≤ 63) (hp : parseL (43 :: l) = (n, true)) :
    Calls Tryd.prog 22 #[.string (bs l), .int .i64 n] w fun e w' => e = .returned (.bool true) ∧ Below w.heap.size w w' := by
  refine W.enter Tryd.func22 rfl Tryd.ntmps22 (Nat.le_of_ble_eq_true rfl) ?_
  have hB0 := Below.refl w.heap.size w
  refine W.seq ?_
  refine W.reg ?_ -- 0
  refine WL.p (.as rfl) rfl <| WL.nil <| ?_
  refine W.seq ?_
  refine W.reg ?_ -- 1
  refine WL.p (.mv rfl) rfl <| WL.p (.cat rfl rfl (by simp only [List.length_cons, List.length_nil] <;> omega)) rfl <| WL.c1 hb15 rfl rfl ((parse_is (43 :: l) n _ (by simp only [List.length_cons]; omega) hp)) (fun w1 hw1 => ?_)
  have hB2 := btr hB0 hw1
  refine WL.p (.mv rfl) rfl <| WL.p (.ext rfl rfl) rfl <| WL.p (.ext rfl rfl) rfl <| WL.p (.as rfl) rfl <| WL.p (.as rfl) rfl <| WL.nil <| ?_
  refine W.seq ?_
  refine W.reg ?_ -- 2
  refine WL.p (.mv rfl) rfl <| WL.p (.mv rfl) rfl <| WL.gy rfl rfl rfl rfl <| WL.p (.mv rfl) rfl <| WL.gy rfl rfl rfl rfl <| WL.p (.mv rfl) rfl <| WL.gy rfl rfl rfl rfl <| WL.p (.bis (true) (.eql rfl rfl) (by simp)) rfl <| WL.p (.pkT rfl rfl rfl) rfl <| WL.p (.as rfl) rfl <| WL.nil <| ?_
  refine W.ret (W.ret1 rfl rfl ?_)
  exact ⟨rfl, hB2⟩

set_option maxRecDepth 10000 in
theorem law_DecBack (n a k : Int) (w : World) (hn : (Lit.int .i32 n).wf = true) (ha : (Lit.int .u8 a).wf = true) (hk : (Lit.int .u8 k).wf = true) :
    Calls Tryd.prog 7 #[.int .i32 n, .int .u8 a, .int .u8 k] w fun e w' => e = .returned (.bool true) ∧ Below w.heap.size w w' := by
  have hn2 : -2147483648 ≤ n ∧ n ≤ 2147483647 := by simpa [Lit.wf, IntKind.min, IntKind.max, IntKind.bits, IntKind.signed] using hn
  have ha2 : 0 ≤ a ∧ a ≤ 255 := by simpa [Lit.wf, IntKind.min, IntKind.max, IntKind.bits, IntKind.signed] using ha
  have hk2 : 0 ≤ k ∧ k ≤ 255 := by simpa [Lit.wf, IntKind.min, IntKind.max, IntKind.bits, IntKind.signed] using hk
  clear hn ha hk
  obtain ⟨hn1, hn2⟩ := hn2
  obtain ⟨R, hr, hR0, hRl, hRd, hRv⟩ := realL_form n
  obtain ⟨w1', w2', w3', w4', w5'⟩ := wholeL_facts n hn1 hn2
  have hnorm : norm n = n := by unfold norm; rw [fitsB_yes hn1 hn2]; rfl
  have hPr : ∀ w, Calls Tryd.prog 20 #[.int .i64 n] w _ := fun w => by have := dec_Print n w; rw [hnorm] at this; exact this
  have hPrR : ∀ w, Calls Tryd.prog 21 #[.int .i64 n] w _ := fun w => by have := dec_PrintReal n w; rw [hnorm] at this; exact this
  have hpl : (printL n).length ≤ 64 := by
    have h1 : (signL n).length ≤ 1 := by unfold signL; split <;> simp
    have h2 : (restL n).length ≤ 16 := fracL_len _
    unfold printL
    split <;> simp only [List.length_append, List.length_cons, List.length_nil] <;> omega
  obtain ⟨m, hm⟩ : ∃ m, m = (if n < 0 then some true else none : Option Bool) := ⟨_, rfl⟩
  rw [← hm] at hr
  have hms : (sgn m).length ≤ 1 := by rw [hm]; split <;> simp [sgn]
  have hmn : neg m = decide (n < 0) := by rw [hm]; by_cases h : n < 0 <;> simp [neg, h]
  have hrl : (realL n).length ≤ 23 := by rw [hr]; simp only [List.length_append, List.length_cons]; omega
  have hp1 := parse_print n hn1 hn2
  have hp2 : parseL (realL n) = (n, true) := by
    have := parse_real m n 0 0 hn1 hn2 R hRd hRv hmn
    rw [hr]; simpa using this
  have ht : tokenL (realL n) = tokReal n := by
    rw [hr] at hp2 hrl ⊢
    exact tokenL_real m _ R n w1' w2' hRd (by omega) hp2
  refine W.enter Tryd.func7 rfl Tryd.ntmps7 (Nat.le_of_ble_eq_true rfl) ?_
  have hB0 := Below.refl w.heap.size w
  refine W.seq ?_
  refine W.reg ?_ -- 0
  refine WL.p (.as rfl) rfl <| WL.nil <| ?_
  refine W.seq ?_
  refine W.reg ?_ -- 1
  refine WL.p (.mv rfl) rfl <| WL.p (.cvt Tryd.underlying21 Tryd.underlying3 rfl (i64w (by omega))) rfl <| WL.c1 hb20 rfl rfl ((hPr _)) (fun w1 hw1 => ?_)
  have hB2 := btr hB0 hw1
  refine WL.p (.as rfl) rfl <| WL.nil <| ?_
  refine W.seq ?_
  refine W.reg ?_ -- 2
  refine WL.p (.mv rfl) rfl <| WL.p (.cvt Tryd.underlying21 Tryd.underlying3 rfl (i64w (by omega))) rfl <| WL.c1 hb21 rfl rfl ((hPrR _)) (fun w3 hw3 => ?_)
  have hB4 := btr hB2 hw3
  refine WL.p (.as rfl) rfl <| WL.nil <| ?_
  refine W.seq ?_
  refine W.reg ?_ -- 3
  refine WL.p (.mv rfl) rfl <| WL.c1 hb15 rfl rfl ((parse_is _ n _ hpl hp1)) (fun w5 hw5 => ?_)
  have hB6 := btr hB4 hw5
  refine WL.p (.mv rfl) rfl <| WL.p (.ext rfl rfl) rfl <| WL.p (.ext rfl rfl) rfl <| WL.p (.as rfl) rfl <| WL.p (.as rfl) rfl <| WL.nil <| ?_
  refine W.seq ?_
  refine W.reg ?_ -- 4
  refine WL.p (.mv rfl) rfl <| WL.c1 hb15 rfl rfl ((parse_is _ n _ (by omega) hp2)) (fun w7 hw7 => ?_)
  have hB8 := btr hB6 hw7
  refine WL.p (.mv rfl) rfl <| WL.p (.ext rfl rfl) rfl <| WL.p (.ext rfl rfl) rfl <| WL.p (.as rfl) rfl <| WL.p (.as rfl) rfl <| WL.nil <| ?_
  refine W.seq ?_
  refine W.reg ?_ -- 5
  refine WL.p (.mv rfl) rfl <| WL.c1 hb17 rfl rfl ((token_real _ n _ ht)) (fun w9 hw9 => ?_)
  have hB10 := btr hB8 hw9
  refine WL.p (.mv rfl) rfl <| WL.p (.ext rfl rfl) rfl <| WL.p (.ext rfl rfl) rfl <| WL.p (.ext rfl rfl) rfl <| WL.alloc Tryd.zeroValue27 rfl (fun b11 wb11 eb11 hkb11 hub11 hsb11 => ?_)
  have hB12 := Upd.below hB10 (by rw [eb11]; exact hB10.size) hub11
  have hgeb11 : w.heap.size ≤ b11 := by rw [eb11]; exact hB10.size
  refine WL.stL rfl rfl hkb11 isz27 rfl rfl (fun w13 hkw13 huw13 hsw13 => ?_)
  have hB14 := Upd.below hB12 (by omega) huw13
  refine WL.p (.as rfl) rfl <| WL.p (.as rfl) rfl <| WL.nil <| ?_
  refine W.seq ?_
  refine W.seq ?_
  refine W.reg ?_ -- 6
  refine WL.c1 hb14 rfl rfl ((answers02 _)) (fun w15 hw15 => ?_)
  have hk16 := hkw13.below hw15 hkw13.lt
  have hB17 := btr hB14 hw15
  refine WL.p (.not rfl) rfl <| WL.p (.mv rfl) rfl <| WL.gy rfl rfl rfl rfl <| WL.p (.mv rfl) rfl <| WL.gy rfl rfl rfl rfl <| WL.p (.not rfl) rfl <| WL.p (.pkF rfl rfl rfl) rfl <| WL.p (.mv rfl) rfl <| WL.gy rfl rfl rfl rfl <| WL.p (.mv rfl) rfl <| WL.gy rfl rfl rfl rfl <| WL.p (.not rfl) rfl <| WL.p (.pkF rfl rfl rfl) rfl <| WL.p (.mv rfl) rfl <| WL.gy rfl rfl rfl rfl <| WL.p (.mv rfl) rfl <| WL.gy rfl rfl rfl rfl <| WL.p (.not rfl) rfl <| WL.p (.pkF rfl rfl rfl) rfl <| WL.p (.mv rfl) rfl <| WL.gy rfl rfl rfl rfl <| WL.p (.mv rfl) rfl <| WL.gy rfl rfl rfl rfl <| WL.p (.bis (false) (.neq rfl rfl) (by simp)) rfl <| WL.p (.pkF rfl rfl rfl) rfl <| WL.p (.mv rfl) rfl <| WL.gy rfl rfl rfl rfl <| WL.p (.mv rfl) rfl <| WL.gy rfl rfl rfl rfl <| WL.p (.mv rfl) rfl <| WL.gy rfl rfl rfl rfl <| WL.p (.cvt Tryd.underlying21 Tryd.underlying3 rfl (i64w (by omega))) rfl <| WL.gy rfl rfl rfl rfl <| WL.p (.bis (false) (.neq rfl rfl) (by simp)) rfl <| WL.p (.pkF rfl rfl rfl) rfl <| WL.p (.mv rfl) rfl <| WL.gy rfl rfl rfl rfl <| WL.p (.mv rfl) rfl <| WL.gy rfl rfl rfl rfl <| WL.p (.mv rfl) rfl <| WL.gy rfl rfl rfl rfl <| WL.p (.cvt Tryd.underlying21 Tryd.underlying3 rfl (i64w (by omega))) rfl <| WL.gy rfl rfl rfl rfl <| WL.p (.bis (false) (.neq rfl rfl) (by simp)) rfl <| WL.p (.pkF rfl rfl rfl) rfl <| WL.p (.mv rfl) rfl <| WL.gy rfl rfl rfl rfl <| WL.p (.fa Tryd.underlying27 rfl Tryd.sizeOf3 (by decide) rfl) rfl <| WL.gy rfl rfl rfl rfl <| WL.r (Rd.ld (Tryd.isAgg3 _) rfl hk16 rfl) rfl <| WL.gy rfl rfl rfl rfl <| WL.p (.bis (false) (.neq rfl rfl) (by simp)) rfl <| WL.p (.pkF rfl rfl rfl) rfl <| WL.p (.mv rfl) rfl <| WL.gy rfl rfl rfl rfl <| WL.p (.fa Tryd.underlying27 rfl Tryd.sizeOf3 (by decide) rfl) rfl <| WL.gy rfl rfl rfl rfl <| WL.r (Rd.ld (Tryd.isAgg3 _) rfl hk16 rfl) rfl <| WL.gy rfl rfl rfl rfl <| WL.p (.mv rfl) rfl <| WL.gy rfl rfl rfl rfl <| WL.p (.cvt Tryd.underlying21 Tryd.underlying3 rfl (i64w (by omega))) rfl <| WL.gy rfl rfl rfl rfl <| WL.p (.bis (false) (.neq rfl rfl) (by simp)) rfl <| WL.p (.pkF rfl rfl rfl) rfl <| WL.p (.mv rfl) rfl <| WL.gy rfl rfl rfl rfl <| WL.p (.mv rfl) rfl <| WL.gy rfl rfl rfl rfl <| WL.p (.len Tryd.underlying9 rfl) rfl <| WL.gy rfl rfl rfl rfl <| WL.p (.bis (false) (.gtr rfl rfl) (by exact decide_eq_false (by omega))) rfl <| WL.p (.pkF rfl rfl rfl) rfl <| WL.nil <| ?_
  refine W.condF rfl rfl ?_
  refine W.skip ?_
  refine W.seq ?_
  refine W.seq ?_
  refine W.reg ?_ -- 8
  refine WL.p (.as rfl) rfl <| WL.nil <| ?_
  refine W.block ?_
  obtain ⟨B, hB⟩ : ∃ B : Nat, (B : Int) = k % 15 := ⟨(k % 15).toNat, by omega⟩
  -- loop 1: writes [8, 16, 90, 91, 92, 93, 94, 95, 96, 97, 98]; reads from outside [2, 8, 16]
  refine W.loop (α := Nat) (fun t => [(0, .int .i32 n), (1, .int .u8 a), (2, .int .u8 k), (8, .string (bs (sgn m ++ (wholeL n ++ 46 :: (R ++ List.replicate t 48))))), (16, .int .i64 (t : Int))]) (fun t w' => w15 = w' ∧ t ≤ B) (fun t => B - t) (0) ⟨rfl, rfl, rfl, lk_s rfl (by rw [hr]; simp), rfl, trivial⟩ (⟨rfl, Nat.zero_le _⟩) (fun t w1 hR => ?_)
  obtain ⟨rfl, ht2⟩ := hR
  refine W.seq ?_
  refine W.seq ?_
  refine W.reg ?_ -- 9
  refine WL.p (.mv rfl) rfl <| WL.p (.mv rfl) rfl <| WL.p (.rem rfl rfl (by omega) (Int.tmod_eq_emod_of_nonneg (by omega))) rfl <| WL.p (.cvt Tryd.underlying5 Tryd.underlying3 rfl (i64w (by omega))) rfl <| WL.p (.lss rfl rfl) rfl <| WL.nil <| ?_
  refine W.cond rfl (fun h18 => ?_) (fun h18 => ?_) -- slot 94
  · have h18' := of_decide_eq_true h18
    refine W.skip ?_
    refine W.seq ?_
    refine W.block ?_
    refine W.reg ?_ -- 11
    refine WL.p (.mv rfl) rfl <| WL.p (.cat rfl rfl (by simp only [List.length_append, List.length_cons, List.length_nil, List.length_replicate] <;> omega)) rfl <| WL.p (.as rfl) rfl <| WL.nil <| ?_
    refine W.reg ?_ -- 10
    refine WL.p (.mv rfl) rfl <| WL.p (.add rfl rfl (i64w (by omega))) rfl <| WL.p (.as rfl) rfl <| WL.nil <| ?_
    exact ⟨t + 1, ⟨rfl, rfl, rfl, lk_s rfl (by rw [List.replicate_succ']; simp), lk_i rfl (by omega), trivial⟩, ⟨rfl, by omega⟩, by omega⟩
  · have h18' := of_decide_eq_false h18
    obtain ⟨b, rfl⟩ : ∃ b, b = t := ⟨t, rfl⟩
    have hdig := head_dig (wholeL n) (46 :: (R ++ List.replicate b 48)) w1' w2'
    have hlen : (sgn m ++ (wholeL n ++ 46 :: (R ++ List.replicate b 48))).length ≤ 37 := by simp only [List.length_append, List.length_cons, List.length_replicate]; omega
    have hlen0 : 0 < (sgn m ++ (wholeL n ++ 46 :: (R ++ List.replicate b 48))).length := by simp only [List.length_append, List.length_cons]; omega
    refine W.exit ?_ -- 0
    refine W.seq ?_
    refine W.reg ?_ -- 12
    refine WL.p (.as rfl) rfl <| WL.nil <| ?_
    refine W.seq ?_
    refine W.seq ?_
    refine W.reg ?_ -- 13
    refine WL.p (.mv rfl) rfl <| WL.p (.ix Tryd.underlying9 rfl rfl 0 rfl (by omega)) rfl <| WL.p (.bis (decide (n < 0)) (.eql rfl rfl) (by exact first_sgn m n hm _ hdig hlen0)) rfl <| WL.nil <| ?_
    refine W.cond rfl (fun h19 => ?_) (fun h19 => ?_) -- slot 101
    · have h19' := of_decide_eq_true h19
      refine W.seq ?_
      refine W.reg ?_ -- 14
      refine WL.p (.as rfl) rfl <| WL.nil <| ?_
      refine W.reg ?_ -- 15
      refine WL.p (.mv rfl) rfl <| WL.p (.slF Tryd.underlying9 rfl rfl 1 rfl (by omega)) rfl <| WL.p (.as rfl) rfl <| WL.nil <| ?_
      refine W.seq ?_
      refine W.seq ?_
      refine W.reg ?_ -- 16
      refine WL.p (.as rfl) rfl <| WL.nil <| ?_
      refine W.block ?_
      obtain ⟨A, hA⟩ : ∃ A : Nat, (A : Int) = a % 15 := ⟨(a % 15).toNat, by omega⟩
      -- loop 2: writes [8, 18, 104, 105, 106, 107, 108, 109, 110, 111, 112]; reads from outside [1, 8, 18]
      refine W.loop (α := Nat) (fun t => [(0, .int .i32 n), (1, .int .u8 a), (8, .string (bs (List.replicate t 48 ++ (wholeL n ++ 46 :: (R ++ List.replicate b 48))))), (17, .string (bs (sgn m))), (18, .int .i64 (t : Int))]) (fun t w' => w15 = w' ∧ t ≤ A) (fun t => A - t) (0) (by first | exact ⟨rfl, rfl, lk_s rfl (by rw [hm, if_pos ‹_›]; rfl), lk_s (s := [45]) rfl (by rw [hm, if_pos ‹_›]; rfl), rfl, trivial⟩ | exact ⟨rfl, rfl, lk_s rfl (by rw [hm, if_neg ‹_›]; rfl), lk_s (s := []) rfl (by rw [hm, if_neg ‹_›]; rfl), rfl, trivial⟩) (⟨rfl, Nat.zero_le _⟩) (fun t w1 hR => ?_)
      obtain ⟨rfl, ht2⟩ := hR
      refine W.seq ?_
      refine W.seq ?_
      refine W.reg ?_ -- 17
      refine WL.p (.mv rfl) rfl <| WL.p (.mv rfl) rfl <| WL.p (.rem rfl rfl (by omega) (Int.tmod_eq_emod_of_nonneg (by omega))) rfl <| WL.p (.cvt Tryd.underlying5 Tryd.underlying3 rfl (i64w (by omega))) rfl <| WL.p (.lss rfl rfl) rfl <| WL.nil <| ?_
      refine W.cond rfl (fun h20 => ?_) (fun h20 => ?_) -- slot 108
      · have h20' := of_decide_eq_true h20
        refine W.skip ?_
        refine W.seq ?_
        refine W.block ?_
        refine W.reg ?_ -- 19
        refine WL.p (.mv rfl) rfl <| WL.p (.cat rfl rfl (by simp only [List.length_append, List.length_cons, List.length_nil, List.length_replicate] <;> omega)) rfl <| WL.p (.as rfl) rfl <| WL.nil <| ?_
        refine W.reg ?_ -- 18
        refine WL.p (.mv rfl) rfl <| WL.p (.add rfl rfl (i64w (by omega))) rfl <| WL.p (.as rfl) rfl <| WL.nil <| ?_
        exact ⟨t + 1, ⟨rfl, rfl, lk_s rfl (by rw [List.replicate_succ]; rfl), rfl, lk_i rfl (by omega), trivial⟩, ⟨rfl, by omega⟩, by omega⟩
      · have h20' := of_decide_eq_false h20
        have hp3 := parse_real m n t b hn1 hn2 R hRd hRv hmn
        have hlen3 : (List.replicate t (48 : UInt8) ++ (wholeL n ++ 46 :: (R ++ List.replicate b 48))).length ≤ 52 := by
          simp only [List.length_append, List.length_cons, List.length_replicate] at hlen ⊢; omega
        rw [List.append_assoc] at hp3
        refine W.exit ?_ -- 2
        refine W.seq ?_
        refine W.reg ?_ -- 20
        refine WL.p (.mv rfl) rfl <| WL.p (.mv rfl) rfl <| WL.p (.cat rfl rfl (by omega)) rfl <| WL.c1 hb15 rfl rfl ((parse_is _ n _ (by rw [List.length_append]; omega) hp3)) (fun w21 hw21 => ?_)
        have hk22 := hk16.below hw21 hk16.lt
        have hB23 := btr hB17 hw21
        refine WL.p (.mv rfl) rfl <| WL.p (.ext rfl rfl) rfl <| WL.p (.ext rfl rfl) rfl <| WL.p (.as rfl) rfl <| WL.p (.as rfl) rfl <| WL.nil <| ?_
        refine W.seq ?_
        refine W.reg ?_ -- 21
        refine WL.p (.mv rfl) rfl <| WL.p (.mv rfl) rfl <| WL.gy rfl rfl rfl rfl <| WL.p (.mv rfl) rfl <| WL.gy rfl rfl rfl rfl <| WL.p (.mv rfl) rfl <| WL.gy rfl rfl rfl rfl <| WL.p (.cvt Tryd.underlying21 Tryd.underlying3 rfl (i64w (by omega))) rfl <| WL.gy rfl rfl rfl rfl <| WL.p (.bis (true) (.eql rfl rfl) (by simp)) rfl <| WL.p (.pkT rfl rfl rfl) rfl <| WL.p (.mv rfl) rfl <| WL.gy rfl rfl rfl rfl <| WL.p (.mv rfl) rfl <| WL.gy rfl rfl rfl rfl <| WL.p (.bis (decide (n < 0)) (.eqs rfl rfl) (by rw [hm]; split <;> simp_all [sgn])) rfl <| WL.gy rfl rfl rfl rfl <| WL.p (.mv rfl) rfl <| WL.gd rfl rfl rfl (fun g24 => ?_) (fun g24 => ?_)
        · have g24' := of_decide_eq_false g24
          refine WL.p (.mv rfl) rfl <| WL.gy rfl rfl rfl g24 <| WL.p (.mv rfl) rfl <| WL.gy rfl rfl rfl g24 <| WL.p (.cvt Tryd.underlying21 Tryd.underlying3 rfl (i64w (by omega))) rfl <| WL.gy rfl rfl rfl g24 <| WL.c1 hb22 rfl rfl ((law_plus _ n _ (by omega) (by have := parse_real (some false) n t b hn1 hn2 R hRd hRv (by simp_all [neg]); rw [List.append_assoc] at this; exact this))) (fun w25 hw25 => ?_)
          have hk26 := hk22.below hw25 hk22.lt
          have hB27 := btr hB23 hw25
          refine WL.gy rfl rfl rfl rfl <| WL.p (.pkF rfl g24 rfl) rfl <| WL.p (.pkT rfl rfl rfl) rfl <| WL.p (.as rfl) rfl <| WL.nil <| ?_
          refine W.ret (W.ret1 rfl rfl ?_)
          exact ⟨rfl, hB27⟩
        · have g24' := of_decide_eq_true g24
          refine WL.gn rfl rfl rfl g24 <| WL.gn rfl rfl rfl g24 <| WL.gn rfl rfl rfl g24 <| WL.gy rfl rfl rfl rfl <| WL.p (.pkT rfl g24 rfl) rfl <| WL.p (.pkT rfl rfl rfl) rfl <| WL.p (.as rfl) rfl <| WL.nil <| ?_
          refine W.ret (W.ret1 rfl rfl ?_)
          exact ⟨rfl, hB23⟩
    · have h19' := of_decide_eq_false h19
      refine W.skip ?_
      refine W.seq ?_
      refine W.seq ?_
      refine W.reg ?_ -- 16
      refine WL.p (.as rfl) rfl <| WL.nil <| ?_
      refine W.block ?_
      obtain ⟨A, hA⟩ : ∃ A : Nat, (A : Int) = a % 15 := ⟨(a % 15).toNat, by omega⟩
      -- loop 2: writes [8, 18, 104, 105, 106, 107, 108, 109, 110, 111, 112]; reads from outside [1, 8, 18]
      refine W.loop (α := Nat) (fun t => [(0, .int .i32 n), (1, .int .u8 a), (8, .string (bs (List.replicate t 48 ++ (wholeL n ++ 46 :: (R ++ List.replicate b 48))))), (17, .string (bs (sgn m))), (18, .int .i64 (t : Int))]) (fun t w' => w15 = w' ∧ t ≤ A) (fun t => A - t) (0) (by first | exact ⟨rfl, rfl, lk_s rfl (by rw [hm, if_pos ‹_›]; rfl), lk_s (s := [45]) rfl (by rw [hm, if_pos ‹_›]; rfl), rfl, trivial⟩ | exact ⟨rfl, rfl, lk_s rfl (by rw [hm, if_neg ‹_›]; rfl), lk_s (s := []) rfl (by rw [hm, if_neg ‹_›]; rfl), rfl, trivial⟩) (⟨rfl, Nat.zero_le _⟩) (fun t w1 hR => ?_)
      obtain ⟨rfl, ht2⟩ := hR
      refine W.seq ?_
      refine W.seq ?_
      refine W.reg ?_ -- 17
      refine WL.p (.mv rfl) rfl <| WL.p (.mv rfl) rfl <| WL.p (.rem rfl rfl (by omega) (Int.tmod_eq_emod_of_nonneg (by omega))) rfl <| WL.p (.cvt Tryd.underlying5 Tryd.underlying3 rfl (i64w (by omega))) rfl <| WL.p (.lss rfl rfl) rfl <| WL.nil <| ?_
      refine W.cond rfl (fun h28 => ?_) (fun h28 => ?_) -- slot 108
      · have h28' := of_decide_eq_true h28
        refine W.skip ?_
        refine W.seq ?_
        refine W.block ?_
        refine W.reg ?_ -- 19
        refine WL.p (.mv rfl) rfl <| WL.p (.cat rfl rfl (by simp only [List.length_append, List.length_cons, List.length_nil, List.length_replicate] <;> omega)) rfl <| WL.p (.as rfl) rfl <| WL.nil <| ?_
        refine W.reg ?_ -- 18
        refine WL.p (.mv rfl) rfl <| WL.p (.add rfl rfl (i64w (by omega))) rfl <| WL.p (.as rfl) rfl <| WL.nil <| ?_
        exact ⟨t + 1, ⟨rfl, rfl, lk_s rfl (by rw [List.replicate_succ]; rfl), rfl, lk_i rfl (by omega), trivial⟩, ⟨rfl, by omega⟩, by omega⟩
      · have h28' := of_decide_eq_false h28
        have hp3 := parse_real m n t b hn1 hn2 R hRd hRv hmn
        have hlen3 : (List.replicate t (48 : UInt8) ++ (wholeL n ++ 46 :: (R ++ List.replicate b 48))).length ≤ 52 := by
          simp only [List.length_append, List.length_cons, List.length_replicate] at hlen ⊢; omega
        rw [List.append_assoc] at hp3
        refine W.exit ?_ -- 2
        refine W.seq ?_
        refine W.reg ?_ -- 20
        refine WL.p (.mv rfl) rfl <| WL.p (.mv rfl) rfl <| WL.p (.cat rfl rfl (by omega)) rfl <| WL.c1 hb15 rfl rfl ((parse_is _ n _ (by rw [List.length_append]; omega) hp3)) (fun w29 hw29 => ?_)
        have hk30 := hk16.below hw29 hk16.lt
        have hB31 := btr hB17 hw29
        refine WL.p (.mv rfl) rfl <| WL.p (.ext rfl rfl) rfl <| WL.p (.ext rfl rfl) rfl <| WL.p (.as rfl) rfl <| WL.p (.as rfl) rfl <| WL.nil <| ?_
        refine W.seq ?_
        refine W.reg ?_ -- 21
        refine WL.p (.mv rfl) rfl <| WL.p (.mv rfl) rfl <| WL.gy rfl rfl rfl rfl <| WL.p (.mv rfl) rfl <| WL.gy rfl rfl rfl rfl <| WL.p (.mv rfl) rfl <| WL.gy rfl rfl rfl rfl <| WL.p (.cvt Tryd.underlying21 Tryd.underlying3 rfl (i64w (by omega))) rfl <| WL.gy rfl rfl rfl rfl <| WL.p (.bis (true) (.eql rfl rfl) (by simp)) rfl <| WL.p (.pkT rfl rfl rfl) rfl <| WL.p (.mv rfl) rfl <| WL.gy rfl rfl rfl rfl <| WL.p (.mv rfl) rfl <| WL.gy rfl rfl rfl rfl <| WL.p (.bis (decide (n < 0)) (.eqs rfl rfl) (by rw [hm]; split <;> simp_all [sgn])) rfl <| WL.gy rfl rfl rfl rfl <| WL.p (.mv rfl) rfl <| WL.gd rfl rfl rfl (fun g32 => ?_) (fun g32 => ?_)
        · have g32' := of_decide_eq_false g32
          refine WL.p (.mv rfl) rfl <| WL.gy rfl rfl rfl g32 <| WL.p (.mv rfl) rfl <| WL.gy rfl rfl rfl g32 <| WL.p (.cvt Tryd.underlying21 Tryd.underlying3 rfl (i64w (by omega))) rfl <| WL.gy rfl rfl rfl g32 <| WL.c1 hb22 rfl rfl ((law_plus _ n _ (by omega) (by have := parse_real (some false) n t b hn1 hn2 R hRd hRv (by simp_all [neg]); rw [List.append_assoc] at this; exact this))) (fun w33 hw33 => ?_)
          have hk34 := hk30.below hw33 hk30.lt
          have hB35 := btr hB31 hw33
          refine WL.gy rfl rfl rfl rfl <| WL.p (.pkF rfl g32 rfl) rfl <| WL.p (.pkT rfl rfl rfl) rfl <| WL.p (.as rfl) rfl <| WL.nil <| ?_
          refine W.ret (W.ret1 rfl rfl ?_)
          exact ⟨rfl, hB35⟩
        · have g32' := of_decide_eq_true g32
          refine WL.gn rfl rfl rfl g32 <| WL.gn rfl rfl rfl g32 <| WL.gn rfl rfl rfl g32 <| WL.gy rfl rfl rfl rfl <| WL.p (.pkT rfl g32 rfl) rfl <| WL.p (.pkT rfl rfl rfl) rfl <| WL.p (.as rfl) rfl <| WL.nil <| ?_
          refine W.ret (W.ret1 rfl rfl ?_)
          exact ⟨rfl, hB31⟩

end Go.Proofs.YteaohajihhpnmaaDoor
