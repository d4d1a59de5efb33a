/-
  What the claim leans on, part 2: pruned and joined by my own tool out of the texts that stand in wip/ as templates.
-/
import Derived.Test.YthmhfjeojkbpfaaGreatDoorVs1
namespace Go.Proofs.YthmhfjeojkbpfaaGreatDoor
open Go.RowKit
open Go.Proofs.Tryz
section
def hexN (c : UInt8) : Nat :=
 if 48 ≤ c.toNat ∧ c.toNat ≤ 57 then c.toNat - 48 else if 97 ≤ c.toNat ∧ c.toNat ≤ 122 then c.toNat - 87 else if 65 ≤ c.toNat ∧ c.toNat ≤ 90 then c.toNat - 55 else 99
theorem hexN_le (c : UInt8) : hexN c ≤ 99 := by unfold hexN; split <;> (try split) <;> (try split) <;> omega
theorem ret_int {k : IntKind} {a b : Int} (h : a = b) : Ending.returned (.int k a) = .returned (.int k b) := by rw [h]
set_option maxHeartbeats 1000000 in
theorem dec_digit (c : UInt8) (w : World) :
    Calls Tryz.prog 160 #[.int .u8 (c.toNat : Int)] w fun e w' => e = .returned (.int .i64 (hexN c)) ∧ w = w' := by
  have hc : c.toNat < 256 := UInt8.toNat_lt c
  have hh : hexN c = if 48 ≤ c.toNat ∧ c.toNat ≤ 57 then c.toNat - 48 else if 97 ≤ c.toNat ∧ c.toNat ≤ 122 then c.toNat - 87 else if 65 ≤ c.toNat ∧ c.toNat ≤ 90 then c.toNat - 55 else 99 := rfl
  have Hh := hid hh; clear hh
  generalize c.toNat = n at *
  by_cases h1 : 48 ≤ n ∧ n ≤ 57
  · obtain ⟨b, d⟩ := h1
    go_enter func160, ntmps160
    go_wp2
    go_ret
    exact ⟨ret_int (by rw [Hh.out, if_pos ⟨b, d⟩]; omega), rfl⟩
  · have a : n < 48 ∨ 57 < n := by omega
    by_cases h2 : 97 ≤ n ∧ n ≤ 122
    · obtain ⟨f, g⟩ := h2
      have H1 := hid h1; clear h1 a
      go_enter func160, ntmps160
      go_wp2
      go_ret
      exact ⟨ret_int (by rw [Hh.out, if_neg H1.out, if_pos ⟨f, g⟩]; omega), rfl⟩
    · have i : n < 97 ∨ 122 < n := by omega
      by_cases h3 : 65 ≤ n ∧ n ≤ 90
      · obtain ⟨j, k⟩ := h3
        have H1 := hid h1; have H2 := hid h2; clear h1 a h2 i
        go_enter func160, ntmps160
        go_wp2
        go_ret
        exact ⟨ret_int (by rw [Hh.out, if_neg H1.out, if_neg H2.out, if_pos ⟨j, k⟩]; omega), rfl⟩
      · have l : n < 65 ∨ 90 < n := by omega
        have H1 := hid h1; have H2 := hid h2; have H3 := hid h3; clear h1 h2 h3
        go_enter func160, ntmps160
        go_wp2
        all_goals
          go_ret
          exact ⟨ret_int (by rw [Hh.out, if_neg H1.out, if_neg H2.out, if_neg H3.out]; rfl), rfl⟩
def satOf (l : List UInt8) : Nat := l.foldl (fun n c => min (10 * n + (c.toNat - 48)) 1099511627776) 0
def wholeT (l : List UInt8) : Int × Bool :=
 if (signedL l).2.isEmpty || !(signedL l).2.all isDig then (0, false)
 else let n : Int := if (signedL l).1 then -(satOf (signedL l).2 : Int) else satOf (signedL l).2
  (n, decide (-2147483648 ≤ n) && decide (n ≤ 2147483647))
def powerL (l : List UInt8) : Int × Bool :=
 if (signedL l).2.isEmpty || decide (3 < (signedL l).2.length) || !(signedL l).2.all isDig then (0, false)
 else (if (signedL l).1 then -(natOf (signedL l).2 : Int) else natOf (signedL l).2, true)
theorem satOf_snoc (l : List UInt8) (c : UInt8) : satOf (l ++ [c]) = min (10 * satOf l + (c.toNat - 48)) 1099511627776 := by simp [satOf]
theorem satOf_take (l : List UInt8) (k : Nat) (h : k < l.length) : satOf (l.take (k + 1)) = min (10 * satOf (l.take k) + (l[k].toNat - 48)) 1099511627776 := by
 rw [List.take_succ_eq_append_getElem h, satOf_snoc]
theorem satOf_from (l : List UInt8) : ∀ n, n ≤ 1099511627776 → l.foldl (fun n c => min (10 * n + (c.toNat - 48)) 1099511627776) n = min (l.foldl (fun n c => 10 * n + (c.toNat - 48)) n) 1099511627776 := by
 induction l with
 | nil => intro n h; simp; omega
 | cons c r ih =>
  intro n h
  rw [List.foldl_cons, List.foldl_cons, ih _ oO]
  by_cases hb : 10 * n + (c.toNat - 48) ≤ 1099511627776
  ·
   rw [Nat.min_eq_left hb]
  ·
   have a := natOf_ge r (min (10 * n + (c.toNat - 48)) 1099511627776)
   have d := natOf_ge r (10 * n + (c.toNat - 48))
   have b : 1 ≤ 10 ^ r.length := Nat.one_le_pow _ _ dD
   have e : min (10 * n + (c.toNat - 48)) 1099511627776 = 1099511627776 := by omega
   rw [e] at a ⊢
   have f : 1099511627776 * 1 ≤ 1099511627776 * 10 ^ r.length := Nat.mul_le_mul_left _ b
   have g : 1099511627776 * 10 ^ r.length ≤ (10 * n + (c.toNat - 48)) * 10 ^ r.length := Nat.mul_le_mul_right _ oO
   omega
theorem satOf_eq (l : List UInt8) : satOf l = min (natOf l) 1099511627776 := satOf_from l 0 oO
theorem ret_ib2 {a b : Int} {c d : Bool} (h : a = b) (h' : c = d) : Ending.returned (.tuple #[.int .i64 a, .bool c]) = Ending.returned (.tuple #[.int .i64 b, .bool d]) := by rw [h, h']
set_option maxRecDepth 100000 in
set_option maxHeartbeats 2000000 in
theorem dec_whole (l : List UInt8) (w : World) (hl : l.length ≤ 1000) :
    Calls Tryz.prog 126 #[.string (bs l)] w fun e w' => e = .returned (.tuple #[.int .i64 (wholeT l).1, .bool (wholeT l).2]) ∧ Below w.heap.size w w' := by
  have hS := fun w => dec_signed l w oO
  have g := signedL_len l
  have hW : wholeT l = (if (signedL l).2.isEmpty || !(signedL l).2.all isDig then (0, false) else let n : Int := if (signedL l).1 then -(satOf (signedL l).2 : Int) else satOf (signedL l).2
    (n, decide (-2147483648 ≤ n) && decide (n ≤ 2147483647))) := rfl
  generalize signedL l = sr at *
  obtain ⟨m, r⟩ := sr
  simp only at hW hS g
  have hs := bs_size r
  have hT := bs_toList
  cases r with
  | nil =>
    have HW := hid hW; clear hW
    go_enter func126, ntmps126
    go_wp2_with (go_at_call 122; go_must (refine (hS _).mono ?_); rintro e j ⟨rfl, hb1⟩)
    go_ret2
    exact ⟨by rw [HW.out]; rfl, hb1⟩
  | cons c0 r0 =>
    have t := bs_ne c0 r0
    have hI : (c0 :: r0).isEmpty = false := rfl
    rw [hI, Bool.false_or] at hW
    clear hI hT
    have a := fun w => dec_plain (c0 :: r0) w oO
    generalize c0 :: r0 = r at *
    cases hall : r.all isDig with
    | false =>
      rw [hall, if_pos dD] at hW
      rw [hall] at a
      have HW := hid hW; clear hW hall
      go_enter func126, ntmps126
      go_wp2_with first | (go_at_call 122; go_must (refine (hS _).mono ?_); rintro e j ⟨rfl, hb1⟩) | (go_at_call 157; go_must (refine (a _).mono ?_); rintro e q ⟨rfl, hb2⟩)
      go_ret2
      exact ⟨by rw [HW.out]; rfl, btr hb1 hb2⟩
    | true =>
      rw [hall, if_neg dD] at hW
      rw [hall] at a
      have d : ∀ c ∈ r, isDig c = true := List.all_eq_true.1 hall
      have HW := hid hW; have Hdig := hid d; clear hW d hall
      go_enter func126, ntmps126
      go_wp2_with first | (go_at_call 122; go_must (refine (hS _).mono ?_); rintro e j ⟨rfl, hb1⟩) | (go_at_call 157; go_must (refine (a _).mono ?_); rintro e q ⟨rfl, hb2⟩) | (refine wpList_conv_bytes rfl _ _ _ _ rfl u9_ u22_ u5_ _ rfl ?_; intro cap v s f hg u)
      have hb3 := btr (btr hb1 hb2) (below_of_grown hg)
      have Hrow := hid f; clear f hg hb1 hb2 hS a
      go_loop [5, 23] (fun n i => ∃ k : Nat, k ≤ r.length ∧ i = .int .i64 k ∧ n = .int .i64 (satOf (r.take k) : Int)) (fun _ i => r.length - (intOf i).toNat)
      case atStart => exact ⟨0, nl_ _, rfl, rfl⟩
      case round =>
        obtain ⟨k, hk, rfl, rfl⟩ := hrel
        have o : satOf (r.take k) ≤ 1099511627776 := by rw [satOf_eq]; omega
        by_cases hkl : k < r.length
        · have b := satOf_take r k hkl
          have hd := isDig_bounds (Hdig.out r[k] (by simp))
          have hc := (Hrow.out k _ (byteVals_at r k hkl)).1
          have Hstep := hid b; clear b
          generalize satOf (r.take k) = N at *
          generalize r[k].toNat = c at *
          go_wp2
          go_round
          case rel => exact ⟨k + 1, by omega, by go_num, by rw [Hstep.out]; go_num⟩
          case measure => simp [intOf]; omega
        · obtain rfl : k = r.length := by omega
          rw [List.take_length] at o ⊢
          clear Hrow
          generalize satOf r = N at *
          cases m
          all_goals
            go_wp2
            all_goals
              go_ret2
              refine ⟨?_, hb3⟩
              rw [HW.out]
              refine ret_ib2 rfl ?_
              rw [Bool.eq_iff_iff]
              simp
              try omega
set_option maxRecDepth 100000 in
set_option maxHeartbeats 2000000 in
theorem dec_power (l : List UInt8) (w : World) (hl : l.length ≤ 1000) :
    Calls Tryz.prog 128 #[.string (bs l)] w fun e w' => e = .returned (.tuple #[.int .i64 (powerL l).1, .bool (powerL l).2]) ∧ Below w.heap.size w w' := by
  have hS := fun w => dec_signed l w oO
  have j := signedL_len l
  have hW : powerL l = (if (signedL l).2.isEmpty || decide (3 < (signedL l).2.length) || !(signedL l).2.all isDig then (0, false) else (if (signedL l).1 then -(natOf (signedL l).2 : Int) else natOf (signedL l).2, true)) := rfl
  generalize signedL l = sr at *
  obtain ⟨m, r⟩ := sr
  simp only at hW hS j
  have hs := bs_size r
  have hT := bs_toList
  cases r with
  | nil =>
    have HW := hid hW; clear hW
    go_enter func128, ntmps128
    go_wp2_with (go_at_call 122; go_must (refine (hS _).mono ?_); rintro e o ⟨rfl, hb1⟩)
    go_ret2
    exact ⟨by rw [HW.out]; rfl, hb1⟩
  | cons c0 r0 =>
    have u := bs_ne c0 r0
    have hI : (c0 :: r0).isEmpty = false := rfl
    rw [hI, Bool.false_or] at hW
    clear hI hT
    have a := fun w => dec_plain (c0 :: r0) w oO
    generalize c0 :: r0 = r at *
    by_cases h3 : 3 < r.length
    · rw [decide_eq_true h3, Bool.true_or, if_pos rfl] at hW
      have HW := hid hW; clear hW
      go_enter func128, ntmps128
      go_wp2_with first | (go_at_call 122; go_must (refine (hS _).mono ?_); rintro e o ⟨rfl, hb1⟩) | (go_at_call 157; go_must (refine (a _).mono ?_); rintro e q ⟨rfl, hb2⟩)
      go_ret2
      exact ⟨by rw [HW.out]; rfl, hb1⟩
    · rw [decide_eq_false h3, Bool.false_or] at hW
      cases hall : r.all isDig with
      | false =>
        rw [hall, if_pos dD] at hW
        rw [hall] at a
        have HW := hid hW; clear hW hall
        go_enter func128, ntmps128
        go_wp2_with first | (go_at_call 122; go_must (refine (hS _).mono ?_); rintro e o ⟨rfl, hb1⟩) | (go_at_call 157; go_must (refine (a _).mono ?_); rintro e q ⟨rfl, hb2⟩)
        go_ret2
        exact ⟨by rw [HW.out]; rfl, btr hb1 hb2⟩
      | true =>
        rw [hall, if_neg dD] at hW
        rw [hall] at a
        have d : ∀ c ∈ r, isDig c = true := List.all_eq_true.1 hall
        have HW := hid hW; have Hdig := hid d; clear hW d hall
        go_enter func128, ntmps128
        go_wp2_with first | (go_at_call 122; go_must (refine (hS _).mono ?_); rintro e o ⟨rfl, hb1⟩) | (go_at_call 157; go_must (refine (a _).mono ?_); rintro e q ⟨rfl, hb2⟩) | (refine wpList_conv_bytes rfl _ _ _ _ rfl u9_ u22_ u5_ _ rfl ?_; intro cap x t f hg v)
        have hb3 := btr (btr hb1 hb2) (below_of_grown hg)
        have Hrow := hid f; clear f hg hb1 hb2 hS a
        have g : ∀ k, natOf (r.take k) < 1000 := by
          intro k
          have y := natOf_take_le r k
          have A := natOf_lt r Hdig.out
          have B : 10 ^ r.length ≤ 10 ^ 3 := Nat.pow_le_pow_right dD oO
          omega
        have Hnat := hid g; clear g
        go_loop [5, 28] (fun n i => ∃ k : Nat, k ≤ r.length ∧ i = .int .i64 k ∧ n = .int .i64 (natOf (r.take k) : Int)) (fun _ i => r.length - (intOf i).toNat)
        case atStart => exact ⟨0, nl_ _, rfl, rfl⟩
        case round =>
          obtain ⟨k, hk, rfl, rfl⟩ := hrel
          have s := Hnat.out k
          by_cases hkl : k < r.length
          · have b := natOf_take r k hkl
            have hd := isDig_bounds (Hdig.out r[k] (by simp))
            have hc := (Hrow.out k _ (byteVals_at r k hkl)).1
            have Hstep := hid b; clear b
            generalize natOf (r.take k) = N at *
            generalize r[k].toNat = c at *
            go_wp2
            go_round
            case rel => exact ⟨k + 1, by omega, by go_num, by rw [Hstep.out]; go_num⟩
            case measure => simp [intOf]; omega
          · obtain rfl : k = r.length := by omega
            rw [List.take_length] at s ⊢
            clear Hrow Hnat
            generalize natOf r = N at *
            cases m
            all_goals
              go_wp2
              go_ret2
              exact ⟨by rw [HW.out]; rfl, hb3⟩
theorem repeat_one (c : UInt8) (k : Nat) : Lib.repeatL [c] k = List.replicate k c := by
 induction k with
 | zero => rfl
 | succ k ih => rw [Lib.repeatL, ih]; rfl
theorem zeros (k : Nat) (w : World) (hk : k ≤ 100000) :
  Calls Tryz.prog 164 #[.string ⟨#[48]⟩, .int .i64 k] w fun e w' => e = .returned (.string (bs (List.replicate k 48))) ∧ Below w.heap.size w w' := by
 rw [← repeat_one]
 exact Tryz.strings_Repeat ⟨#[48]⟩ k w oO (by show 1 * k ≤ _; omega)
theorem ret_ss {a b a' b' : ByteArray} (h1 : a = a') (h2 : b = b') : Ending.returned (.tuple #[.string a, .string b]) = Ending.returned (.tuple #[.string a', .string b']) := by
 rw [h1, h2]
set_option maxHeartbeats 1000000 in
theorem dec_shift (A B : List UInt8) (k : Int) (w : World) (hA : A.length + B.length ≤ 1000) (hk : -2000 ≤ k) (hk2 : k ≤ 2000) :
    Calls Tryz.prog 129 #[.string (bs A), .string (bs B), .int .i64 k] w fun e w' => e = .returned (.tuple #[.string (bs (wholeD (A ++ B) (A.length + k))), .string (bs (restD (A ++ B) (A.length + k)))]) ∧ Below w.heap.size w w' := by
  have sA := bs_size A
  have sB := bs_size B
  have l := bs_append A B
  have o : (bs (A ++ B)).size = A.length + B.length := by rw [bs_size]; simp
  have a : (A ++ B).length = A.length + B.length := by simp
  by_cases h1 : (A.length : Int) + k < 0
  · have hZ := fun w => zeros (-((A.length : Int) + k)).toNat w oO
    have i : (((-((A.length : Int) + k)).toNat : Nat) : Int) = -((A.length : Int) + k) := by omega
    rw [i] at hZ
    have eW : wholeD (A ++ B) (A.length + k) = [] := by
      unfold wholeD
      have : ((A.length : Int) + k).toNat = 0 := by omega
      rw [this]; simp
    have eR : restD (A ++ B) (A.length + k) = List.replicate (-((A.length : Int) + k)).toNat 48 ++ (A ++ B) := by
      unfold restD
      have : ((A.length : Int) + k).toNat = 0 := by omega
      rw [this]; rfl
    have d := bs_size (List.replicate (-((A.length : Int) + k)).toNat (48 : UInt8))
    rw [List.length_replicate] at d
    have m : (bs (List.replicate (-((A.length : Int) + k)).toNat (48 : UInt8))).size ≤ 3000 := by rw [d]; omega
    have EW := hid eW; have ER := hid eR; clear eW eR i d
    generalize List.replicate (-((A.length : Int) + k)).toNat (48 : UInt8) = Z at *
    have c := bs_append Z (A ++ B)
    have Hcat2 := hid c; clear c a
    generalize A ++ B = C at *
    go_enter func129, ntmps129
    go_wp2_with (go_at_call 164; go_must (refine (hZ _).mono ?_); rintro e n ⟨rfl, hb1⟩)
    go_ret2
    exact ⟨ret_ss (by rw [EW.out]; rfl) (by rw [ER.out]; exact Hcat2.out), hb1⟩
  · by_cases h2 : (A.length : Int) + (B.length : Int) < (A.length : Int) + k
    · have hZ := fun w => zeros (((A.length : Int) + k) - ((A.length : Int) + (B.length : Int))).toNat w oO
      have i : (((((A.length : Int) + k) - ((A.length : Int) + (B.length : Int))).toNat : Nat) : Int) = ((A.length : Int) + k) - ((A.length : Int) + (B.length : Int)) := by omega
      rw [i] at hZ
      have b : (A ++ B ++ List.replicate (((A.length : Int) + k) - ((A.length : Int) + (B.length : Int))).toNat (48 : UInt8)).length = ((A.length : Int) + k).toNat := by
        simp; omega
      have eW : wholeD (A ++ B) (A.length + k) = A ++ B ++ List.replicate (((A.length : Int) + k) - ((A.length : Int) + (B.length : Int))).toNat 48 := by
        unfold wholeD
        rw [List.take_of_length_le (by rw [a]; omega)]
        congr 2; rw [a]; omega
      have eR : restD (A ++ B) (A.length + k) = [] := by
        unfold restD
        have : (-((A.length : Int) + k)).toNat = 0 := by omega
        rw [this, List.drop_eq_nil_of_le (by rw [a]; omega)]; rfl
      have d : (bs (List.replicate (((A.length : Int) + k) - ((A.length : Int) + (B.length : Int))).toNat (48 : UInt8))).size ≤ 3000 := by rw [bs_size]; simp; omega
      have EW := hid eW; have ER := hid eR; clear eW eR
      generalize List.replicate (((A.length : Int) + k) - ((A.length : Int) + (B.length : Int))).toNat (48 : UInt8) = Z at *
      have c := bs_append (A ++ B) Z
      have j := bs_size (A ++ B ++ Z)
      have f := ext_take (A ++ B ++ Z) ((A.length : Int) + k).toNat
      have g := ext_drop (A ++ B ++ Z) ((A.length : Int) + k).toNat ((A.length : Int) + k).toNat b.symm
      rw [← b, List.take_length, b] at f
      rw [← b, List.drop_length, b] at g
      rw [b] at j
      clear i a
      have q : ((((A.length : Int) + k).toNat : Nat) : Int) = (A.length : Int) + k := by omega
      generalize A ++ B = C at *
      generalize C ++ Z = D at *
      clear b
      go_enter func129, ntmps129
      go_wp2_with (go_at_call 164; go_must (refine (hZ _).mono ?_); rintro e n ⟨rfl, hb1⟩)
      have X1 := hid f; have X2 := hid g; clear f g
      go_quiet (fail)
      go_wp2
      go_ret2
      exact ⟨ret_ss (by rw [EW.out]; exact X1.out) (by rw [ER.out]; rfl), hb1.trans (bdrewN _ _ |>.mono hb1.size)⟩
    · have eW : wholeD (A ++ B) (A.length + k) = (A ++ B).take ((A.length : Int) + k).toNat := by
        unfold wholeD
        rw [show ((A.length : Int) + k).toNat - (A ++ B).length = 0 from by rw [a]; omega]; simp
      have eR : restD (A ++ B) (A.length + k) = (A ++ B).drop ((A.length : Int) + k).toNat := by
        unfold restD
        have : (-((A.length : Int) + k)).toNat = 0 := by omega
        rw [this]; rfl
      have f := ext_take (A ++ B) ((A.length : Int) + k).toNat
      have g := ext_drop (A ++ B) ((A.length : Int) + k).toNat (A.length + B.length) a.symm
      have EW := hid eW; have ER := hid eR; have X1 := hid f; have X2 := hid g; clear eW eR f g a
      generalize A ++ B = C at *
      go_enter func129, ntmps129
      go_wp2_with fail
      go_quiet (fail)
      go_wp2
      go_ret2
      exact ⟨ret_ss (by rw [EW.out]; exact X1.out) (by rw [ER.out]; exact X2.out), bdrewN _ _⟩
end
section
theorem bcell {W w1 : World} (hb : Below W.heap.size W w1) : (∀ b o, b < W.heap.size → w1.cell? ⟨b, o, none⟩ = W.cell? ⟨b, o, none⟩) ∧ (∀ b o, b < W.heap.size → w1.frozen? ⟨b, o, none⟩ = W.frozen? ⟨b, o, none⟩) :=
 ⟨fun b o h => hb.cell (p := ⟨b, o, none⟩) h, fun b o h => hb.frozen (p := ⟨b, o, none⟩) h⟩
theorem balloc {w w1 : World} {o : Obj} (hb : Below (w.alloc o).heap.size (w.alloc o) w1) : Below w.heap.size w w1 :=
 ((br_ _ _).alloc (nr_ _) o).trans (hb.mono (by simp))
theorem bset3 {w w1 : World} (hb : Below w.heap.size w w1) (a b c : Value) : Below w.heap.size w (((w1.setCell ⟨w.heap.size, 0, none⟩ a).setCell ⟨w.heap.size, 1, none⟩ b).setCell ⟨w.heap.size, 2, none⟩ c) :=
 ((hb.setCell (p := ⟨w.heap.size, 0, none⟩) (nr_ _) _).setCell (p := ⟨w.heap.size, 1, none⟩) (nr_ _) _).setCell (p := ⟨w.heap.size, 2, none⟩) (nr_ _) _
def cutC (x : UInt8) : List UInt8 → List UInt8 × List UInt8 × Bool
 | [] => ([], [], false)
 | c :: r => if c = x then ([], r, true) else (c :: (cutC x r).1, (cutC x r).2)
theorem cutC_yes (x : UInt8) (B : List UInt8) : ∀ A : List UInt8, x ∉ A → cutC x (A ++ x :: B) = (A, B, true)
 | [], _ => by simp [cutC]
 | c :: A, h => by
  simp only [List.mem_cons, not_or] at h
  have ih := cutC_yes x B A h.2
  simp [cutC, ih, Ne.symm h.1]
theorem cutC_no (x : UInt8) : ∀ l : List UInt8, x ∉ l → cutC x l = (l, [], false)
 | [], _ => rfl
 | c :: l, h => by
  simp only [List.mem_cons, not_or] at h
  have ih := cutC_no x l h.2
  simp [cutC, ih, Ne.symm h.1]
theorem cutC_len (x : UInt8) (l : List UInt8) : (cutC x l).1.length + (cutC x l).2.1.length ≤ l.length := by
 induction l with
 | nil => simp [cutC]
 | cons c r ih => unfold cutC; split <;> simp; omega
theorem lib_cut (x : UInt8) (l : List UInt8) (w : World) (hl : l.length ≤ 100000000) :
  Calls Tryz.prog 156 #[.string (bs l), .string ⟨#[x]⟩] w fun e w' => e = .returned (.tuple #[.string (bs (cutC x l).1), .string (bs (cutC x l).2.1), .bool (cutC x l).2.2]) ∧ Below w.heap.size w w' := by
 by_cases h : x ∈ l
 ·
  obtain ⟨A, B, rfl, hA⟩ := split_at x l h
  rw [cutC_yes x B A hA]; exact cut1_yes A B x w hl hA
 ·
  rw [cutC_no x l h]; exact cut1_no l x w h
structure TokR where
 kind : Int
 n : Int
 ok : Bool
 e : Int
def TokR.val (t : TokR) : Value := .tuple #[.agg #[.int .i64 t.kind, .int .i64 t.n, .string ⟨#[]⟩], .bool t.ok, .int .i64 t.e]
def tokNone : TokR := ⟨0, 0, false, 0⟩
def tokGreat : TokR := ⟨0, 0, true, 9⟩
def tokInt (n : Int) : TokR := ⟨1, n, true, 0⟩
def tokReal (n : Int) : TokR := ⟨2, n, true, 0⟩
def radixLoop (base : Nat) : List UInt8 → Nat → Bool → Option (Nat × Bool)
 | [], n, over => some (n, over)
 | c :: r, n, over => if base ≤ hexN c then none else if 4294967296 ≤ n * base + hexN c then radixLoop base r 0 true else radixLoop base r (n * base + hexN c) over
def radixRes : Option (Nat × Bool) → TokR
 | none => tokNone
 | some (n, over) => if over then tokGreat else tokInt (if 2147483648 ≤ n then (n : Int) - 4294967296 else n)
def radixOk (l : List UInt8) : Bool := (cutC 35 l).2.2 && !(cutC 35 l).1.isEmpty && decide ((cutC 35 l).1.length ≤ 2) && (cutC 35 l).1.all isDig && !(cutC 35 l).2.1.isEmpty
set_option maxRecDepth 100000 in
set_option maxHeartbeats 2000000 in
theorem dec_radix_not (l : List UInt8) (w : World) (hl : l.length ≤ 1000) (hno : radixOk l = false) :
    Calls Tryz.prog 125 #[.string (bs l)] w fun e w' => e = .returned tokNone.val ∧ Below w.heap.size w w' := by
  have hC := fun w => lib_cut 35 l w oO
  have m := cutC_len 35 l
  unfold radixOk at hno
  generalize cutC 35 l = p at *
  obtain ⟨A, B, f⟩ := p
  simp only at hno hC m
  have sA := bs_size A
  cases f with
  | false =>
    clear hno
    go_enter func125, ntmps125
    go_wp2_with (go_at_call 156; go_must (refine (hC _).mono ?_); rintro e j ⟨rfl, hb1⟩; obtain ⟨b, d⟩ := bcell hb1; have a := hb1.size; simp at a; replace a := Nat.lt_of_succ_le a)
    exact bodyPost_ret (v := tokNone.val) (by simp [results, Tryz.results125, go_sem, b, TokR.val, tokNone]) rfl ⟨rfl, bset3 (balloc hb1) _ _ _⟩
  | true =>
    simp only [Bool.true_and] at hno
    have sB := bs_size B
    have hT := bs_toList
    by_cases hA0 : A.isEmpty = true
    · obtain rfl : A = [] := by simpa using hA0
      clear hno hA0
      go_enter func125, ntmps125
      go_wp2_with (go_at_call 156; go_must (refine (hC _).mono ?_); rintro e j ⟨rfl, hb1⟩; obtain ⟨b, d⟩ := bcell hb1; have a := hb1.size; simp at a; replace a := Nat.lt_of_succ_le a)
      exact bodyPost_ret (v := tokNone.val) (by simp [results, Tryz.results125, go_sem, b, TokR.val, tokNone]) rfl ⟨rfl, bset3 (balloc hb1) _ _ _⟩
    · have c : A.isEmpty = false := by simpa using hA0
      have s : (bs A).toList.isEmpty = false := by rw [bs_toList]; exact c
      rw [c] at hno
      by_cases hA2 : 2 < A.length
      · clear hno hA0 c hT
        go_enter func125, ntmps125
        go_wp2_with (go_at_call 156; go_must (refine (hC _).mono ?_); rintro e j ⟨rfl, hb1⟩; obtain ⟨b, d⟩ := bcell hb1; have a := hb1.size; simp at a; replace a := Nat.lt_of_succ_le a)
        exact bodyPost_ret (v := tokNone.val) (by simp [results, Tryz.results125, go_sem, b, TokR.val, tokNone]) rfl ⟨rfl, bset3 (balloc hb1) _ _ _⟩
      · have g := fun w => dec_plain A w oO
        cases hall : A.all isDig with
        | false =>
          rw [hall] at g
          clear hno hA0 c hall hT
          go_enter func125, ntmps125
          go_wp2_with first | (go_at_call 156; go_must (refine (hC _).mono ?_); rintro e j ⟨rfl, hb1⟩; obtain ⟨b, d⟩ := bcell hb1; have a := hb1.size; simp at a; replace a := Nat.lt_of_succ_le a) | (go_at_call 157; go_must (refine (g _).mono ?_); rintro e q ⟨rfl, hb2⟩; obtain ⟨i, n⟩ := bcell hb2; have o := hb2.size)
          exact bodyPost_ret (v := tokNone.val) (by simp [results, Tryz.results125, go_sem, b, i, a, TokR.val, tokNone]) rfl ⟨rfl, bset3 (btr (balloc hb1) hb2) _ _ _⟩
        | true =>
          rw [hall] at g hno
          have k : decide (A.length ≤ 2) = true := by simp; omega
          rw [k] at hno
          obtain rfl : B = [] := by simpa using hno
          have t : (bs []).toList.isEmpty = true := by rw [bs_toList]; rfl
          clear hno hA0 c hall k hT
          go_enter func125, ntmps125
          go_wp2_with first | (go_at_call 156; go_must (refine (hC _).mono ?_); rintro e j ⟨rfl, hb1⟩; obtain ⟨b, d⟩ := bcell hb1; have a := hb1.size; simp at a; replace a := Nat.lt_of_succ_le a) | (go_at_call 157; go_must (refine (g _).mono ?_); rintro e q ⟨rfl, hb2⟩; obtain ⟨i, n⟩ := bcell hb2; have o := hb2.size)
          exact bodyPost_ret (v := tokNone.val) (by simp [results, Tryz.results125, go_sem, b, i, a, TokR.val, tokNone]) rfl ⟨rfl, bset3 (btr (balloc hb1) hb2) _ _ _⟩
theorem tokCells {w w' : World} {a b c : Value} {t : TypeId} (hb : Below (w.alloc (.cells #[a, b, c] t)).heap.size (w.alloc (.cells #[a, b, c] t)) w') :
  w'.cell? ⟨w.heap.size, 0, none⟩ = some a ∧ w'.cell? ⟨w.heap.size, 1, none⟩ = some b ∧ w'.cell? ⟨w.heap.size, 2, none⟩ = some c ∧
  w'.frozen? ⟨w.heap.size, 0, none⟩ = false ∧ w'.frozen? ⟨w.heap.size, 1, none⟩ = false ∧ w'.frozen? ⟨w.heap.size, 2, none⟩ = false := by
 have d : w.heap.size < (w.alloc (.cells #[a, b, c] t)).heap.size := by simp
 rw [hb.cell (p := ⟨w.heap.size, 0, none⟩) d, hb.cell (p := ⟨w.heap.size, 1, none⟩) d, hb.cell (p := ⟨w.heap.size, 2, none⟩) d, hb.frozen (p := ⟨w.heap.size, 0, none⟩) d, hb.frozen (p := ⟨w.heap.size, 1, none⟩) d, hb.frozen (p := ⟨w.heap.size, 2, none⟩) d]
 refine ⟨?_, ?_, ?_, ?_, ?_, ?_⟩ <;> go_simp
theorem radixLoop_drop (base : Nat) (B : List UInt8) (k n : Nat) (over : Bool) (h : k < B.length) :
  radixLoop base (B.drop k) n over = if base ≤ hexN B[k] then none else if 4294967296 ≤ n * base + hexN B[k] then radixLoop base (B.drop (k + 1)) 0 true else radixLoop base (B.drop (k + 1)) (n * base + hexN B[k]) over := by
 rw [List.drop_eq_getElem_cons h]; rfl
def radixV (A B : List UInt8) : TokR := if natOf A < 2 ∨ 36 < natOf A then tokNone else radixRes (radixLoop (natOf A) B 0 false)
set_option maxRecDepth 100000 in
set_option maxHeartbeats 4000000 in
theorem dec_radix_yes (l A B : List UInt8) (w : World) (hl : l.length ≤ 1000) (hcut : cutC 35 l = (A, B, true)) (hA0 : A ≠ []) (hA2 : A.length ≤ 2) (hall : A.all isDig = true) (hB0 : B ≠ []) :
    Calls Tryz.prog 125 #[.string (bs l)] w fun e w' => e = .returned (radixV A B).val ∧ Below w.heap.size w w' := by
  have hC := fun w => lib_cut 35 l w oO
  have F := cutC_len 35 l
  rw [hcut] at hC F
  simp only at hC F
  clear hcut
  have sA := bs_size A
  have sB := bs_size B
  have M : (bs A).toList.isEmpty = false := by rw [bs_toList]; cases A <;> simp at *
  have O : (bs B).toList.isEmpty = false := by rw [bs_toList]; cases B <;> simp at *
  have x := fun w => dec_plain A w oO
  rw [hall] at x
  have q : ∀ c ∈ A, isDig c = true := List.all_eq_true.1 hall
  have y : ∀ k, natOf (A.take k) < 100 := by
    intro k
    have h1 := natOf_take_le A k
    have h2 := natOf_lt A q
    have h4 : 10 ^ A.length ≤ 10 ^ 2 := Nat.pow_le_pow_right dD hA2
    omega
  have Hdig := hid q; have Hnat := hid y
  clear hA0 hB0 hall q y
  go_enter func125, ntmps125
  go_wp2_with first | (go_at_call 156; go_must (refine (hC _).mono ?_); rintro e w1 ⟨rfl, hb1⟩; obtain ⟨Q, R⟩ := bcell hb1; have s := hb1.size; simp at s; replace s := Nat.lt_of_succ_le s) | (go_at_call 157; go_must (refine (x _).mono ?_); rintro e w2 ⟨rfl, hb2⟩; obtain ⟨T, U⟩ := bcell hb2; have V := hb2.size) | (refine wpList_conv_bytes rfl _ _ _ _ rfl u9_ u22_ u5_ _ rfl ?_; intro cap w3 J g hg X)
  have m : Below (w.alloc (Obj.cells #[Value.int .i64 0, Value.int .i64 0, Value.string ⟨#[]⟩] 147)).heap.size (w.alloc (Obj.cells #[Value.int .i64 0, Value.int .i64 0, Value.string ⟨#[]⟩] 147)) w3 := btr (btr hb1 hb2) (below_of_grown hg)
  have Hrow := hid g
  clear Q R T U hb1 hb2 V g hg hC x M O J X s
  go_loop [8, 46] (fun n i => ∃ k : Nat, k ≤ A.length ∧ i = .int .i64 k ∧ n = .int .i64 (natOf (A.take k) : Int)) (fun _ i => A.length - (intOf i).toNat)
  case atStart => exact ⟨0, nl_ _, rfl, rfl⟩
  case round =>
    obtain ⟨k, hk, rfl, rfl⟩ := hrel
    have Y := Hnat.out k
    by_cases hkl : k < A.length
    · have b := natOf_take A k hkl
      have hd := isDig_bounds (Hdig.out A[k] (by simp))
      have hc := (Hrow.out k _ (byteVals_at A k hkl)).1
      have Hstep := hid b; clear b
      generalize natOf (A.take k) = N at *
      generalize A[k].toNat = c at *
      go_wp2
      go_round
      case rel => exact ⟨k + 1, by omega, by go_num, by rw [Hstep.out]; go_num⟩
      case measure => simp [intOf]; omega
    · obtain rfl : k = A.length := by omega
      rw [List.take_length] at Y ⊢
      clear Hrow Hnat hkl
      generalize hgN : natOf A = N at *
      have HgN := hid hgN; clear hgN
      by_cases hbad : N < 2 ∨ 36 < N
      · have Hbad := hid hbad
        obtain ⟨t, c1, u, f0, f1, f2⟩ := tokCells m
        go_wp2
        all_goals exact bodyPost_ret (v := tokNone.val) (by simp [results, Tryz.results125, go_sem, t, c1, u, TokR.val, tokNone]) rfl ⟨by rw [radixV, HgN.out, if_pos Hbad.out], bset3 (balloc m) _ _ _⟩
      · have hb2 : 2 ≤ N := by omega
        have hb36 : N ≤ 36 := by omega
        have Hbad := hid hbad; clear hbad
        go_wp2_with (refine wpList_conv_bytes rfl _ _ _ _ rfl u9_ u22_ u5_ _ rfl ?_; intro a1 w4 E g hg K)
        have j := m.trans ((below_of_grown hg).mono m.size)
        obtain ⟨t, c1, u, f0, f1, f2⟩ := tokCells j
        have Hrow := hid g
        clear g hg E K m
        have C : (if N < 2 ∨ 36 < N then tokNone else radixRes (radixLoop N B 0 false)) = radixRes (radixLoop N B 0 false) := if_neg Hbad.out
        have Hfin := hid C; clear C
        go_loop [11, 12, 67] (fun n o i => ∃ (k : Nat) (f : Nat) (ov : Bool), k ≤ B.length ∧ i = .int .i64 k ∧ n = .int .i64 f ∧ o = .bool ov ∧ f < 4294967296 ∧ radixLoop N (B.drop k) f ov = radixLoop N B 0 false) (fun _ _ i => B.length - (intOf i).toNat)
        case atStart => exact ⟨0, 0, false, nl_ _, rfl, rfl, rfl, by omega, rfl⟩
        case round =>
          obtain ⟨k, f, ov, hk, rfl, rfl, rfl, a2, G⟩ := hrel
          have Hrr := hid G; clear G
          by_cases hkl : k < B.length
          · have b := radixLoop_drop N B k f ov hkl
            have hc := (Hrow.out k _ (byteVals_at B k hkl)).1
            have hx := hexN_le B[k]
            have hD := fun w => dec_digit B[k] w
            generalize hexN B[k] = d at *
            generalize B[k] = c at *
            obtain ⟨P, hP⟩ : ∃ P : Nat, P = f * N := ⟨_, rfl⟩
            have a3 : (f : Int) * (N : Int) = (P : Int) := by rw [hP, Int.natCast_mul]
            have a4 : P ≤ 154618822656 := by
              have h := Nat.mul_le_mul (show f ≤ 4294967296 by omega) hb36
              rw [← hP] at h; omega
            rw [← hP] at b
            have Hstep := hid b; clear b hP
            by_cases hdN : N ≤ d
            · go_wp2_with (go_at_call 160; go_must (refine (hD _).mono ?_); rintro e Z ⟨rfl, rfl⟩)
              refine bodyPost_ret (v := tokNone.val) (by simp [results, Tryz.results125, go_sem, t, c1, u, TokR.val, tokNone]) rfl ⟨?_, bset3 (balloc j) _ _ _⟩
              rw [radixV, HgN.out, Hfin.out, ← Hrr.out, Hstep.out, if_pos hdN]; rfl
            · by_cases hov : 4294967296 ≤ P + d
              · have L : (4294967296 : Int) ≤ (P : Int) + (d : Int) := by omega
                have Hov := hid hov; clear hov
                go_wp2_with (go_at_call 160; go_must (refine (hD _).mono ?_); rintro e Z ⟨rfl, rfl⟩)
                go_round
                case rel => exact ⟨k + 1, 0, true, by omega, by go_num, rfl, rfl, by omega, by rw [← Hrr.out, Hstep.out, if_neg hdN, if_pos Hov.out]⟩
                case measure => simp [intOf]; omega
              · have L : decide ((4294967296 : Int) ≤ (P : Int) + (d : Int)) = false := decide_eq_false oO
                have H : P + d < 4294967296 := by omega
                have Hov := hid hov; have HPd := hid H; clear hov H
                go_wp2_with (go_at_call 160; go_must (refine (hD _).mono ?_); rintro e Z ⟨rfl, rfl⟩)
                go_round
                case rel => exact ⟨k + 1, P + d, ov, by omega, by go_num, by go_num, rfl, HPd.out, by rw [← Hrr.out, Hstep.out, if_neg hdN, if_neg Hov.out]⟩
                case measure => simp [intOf]; omega
          · obtain rfl : k = B.length := by omega
            have D : radixLoop N B 0 false = some (f, ov) := by
              rw [← Hrr.out, List.drop_length]; rfl
            have Hend := hid D; clear D Hrow hkl
            cases ov with
            | true =>
              go_wp2
              refine bodyPost_ret (v := tokGreat.val) (by simp [results, Tryz.results125, go_sem, t, c1, u, TokR.val, tokGreat]) rfl ⟨?_, bset3 (balloc j) _ _ _⟩
              rw [radixV, HgN.out, Hfin.out, Hend.out]; rfl
            | false =>
              by_cases a : 2147483648 ≤ f
              · have a0 : decide ((2147483648 : Int) ≤ (f : Int)) = true := decide_eq_true oO
                have Hbig := hid a; clear a
                go_wp2
                have a := Hbig.out
                refine bodyPost_ret (v := (tokInt ((f : Int) - 4294967296)).val) (by simp [results, Tryz.results125, go_sem, t, c1, u, TokR.val, tokInt]) rfl ⟨?_, bset3 (balloc j) _ _ _⟩
                rw [radixV, HgN.out, Hfin.out, Hend.out]
                rw [radixRes]; simp only [Bool.false_eq_true, if_false, a]; rfl
              · have a0 : decide ((2147483648 : Int) ≤ (f : Int)) = false := decide_eq_false oO
                have Hbig := hid a; clear a
                go_wp2
                have a := Hbig.out
                refine bodyPost_ret (v := (tokInt (f : Int)).val) (by simp [results, Tryz.results125, go_sem, t, c1, u, TokR.val, tokInt]) rfl ⟨?_, bset3 (balloc j) _ _ _⟩
                rw [radixV, HgN.out, Hfin.out, Hend.out]
                rw [radixRes]; simp only [Bool.false_eq_true, if_false, a]
def radixL (l : List UInt8) : TokR := if radixOk l then radixV (cutC 35 l).1 (cutC 35 l).2.1 else tokNone
theorem dec_radix (l : List UInt8) (w : World) (hl : l.length ≤ 1000) :
  Calls Tryz.prog 125 #[.string (bs l)] w fun e w' => e = .returned (radixL l).val ∧ Below w.heap.size w w' := by
 unfold radixL
 cases hok : radixOk l with
 | false => exact dec_radix_not l w hl hok
 | true =>
  unfold radixOk at hok
  simp only [Bool.and_eq_true, decide_eq_true_eq, Bool.not_eq_true', List.isEmpty_eq_false_iff] at hok
  obtain ⟨⟨⟨⟨a, b⟩, c⟩, d⟩, f⟩ := hok
  have hc : cutC 35 l = ((cutC 35 l).1, (cutC 35 l).2.1, true) := by rw [← a]
  exact dec_radix_yes l _ _ w hl hc b c d f
end
section
def eE : ByteArray := ⟨#[101, 69]⟩
theorem eE_size : eE.size = 2 := rfl
theorem eE_1 (h : 1 < eE.size) : eE[1]'h = 69 := rfl
theorem eE_tail : eE.extract 2 2 = bs [] := rfl
theorem eE_asc : ∀ i (h : i < eE.size), (eE[i]'h).toNat < 128 := by
 intro i h
 have a : i < 2 := h
 obtain rfl | rfl : i = 0 ∨ i = 1 := by omega
 ·
  show (101 : UInt8).toNat < 128; decide
 ·
  show (69 : UInt8).toNat < 128; decide
def isE (c : UInt8) : Bool := c == 101 || c == 69
theorem encode_two (r : Nat) (h : 128 ≤ r) (h2 : r < 2048) : Utf8.encode (r : Int) = ⟨#[UInt8.ofNat (192 + r / 64), UInt8.ofNat (128 + r % 64)]⟩ := by
 have hv : Utf8.valid (r : Int) = true := by simp [Utf8.valid]; omega
 unfold Utf8.encode
 simp only [hv, if_true, Int.toNat_natCast]
 rw [if_neg oO, if_pos oO]
theorem encode_more (r : Nat) (h2 : 2048 ≤ r) (h3 : Utf8.valid (r : Int) = true) : 3 ≤ (Utf8.encode (r : Int)).size ∧ (Utf8.encode (r : Int)).size ≤ 4 := by
 unfold Utf8.encode
 simp only [h3, if_true, Int.toNat_natCast]
 rw [if_neg oO, if_neg oO]
 split <;> simp [ByteArray.size]
theorem quiet_add_same {P : Program} {f : FuncId} {args : Array Value} {w : World} {a n : Nat} {v : Value}
  (h : Calls P f args (w.drewN (a + n)) fun e w' => e = .returned v ∧ w' = w.drewN (a + n)) :
  Calls P f args (w.drewN (a + n)) fun e w'' => e = .returned v ∧ ∃ m, w'' = w.drewN (a + m) :=
 h.mono fun _ _ ⟨he, hm⟩ => ⟨he, n, hm⟩
theorem indexByte_nil (c : Int) (w : World) :
  Calls Tryz.prog 58 #[.string ByteArray.empty, .int .u8 c] w fun e w' => e = .returned (.int .i64 (-1)) ∧ w' = w :=
 Tryz.strings_IndexByte ByteArray.empty c w
set_option maxRecDepth 100000 in
set_option maxHeartbeats 4000000 in
theorem indexRune_two (r : Nat) (w : World) (h : 128 ≤ r) (h2 : r < 2048) :
  Calls Tryz.prog 161 #[.string eE, .int .i32 (r : Int)] w fun e w' => e = .returned (.int .i64 (-1)) ∧ Below w.heap.size w w' := by
 have hV := fun w => (Tryz.utf8_ValidRune (r : Int) w)
 have f : Lib.validRune (r : Int) = true := by simp [Lib.validRune]; omega
 rw [f] at hV
 have a := encode_two r h h2
 have hs : (Utf8.encode (r : Int)).size = 2 := by rw [a]; rfl
 obtain ⟨c, hc⟩ : ∃ c : UInt8, c = UInt8.ofNat (128 + r % 64) := ⟨_, rfl⟩
 have g : c.toNat = 128 + r % 64 := by rw [hc, UInt8.toNat_ofNat']; omega
 have b : ∀ h, (Utf8.encode (r : Int))[1]'h = c := by rw [a, hc]; intro _; rfl
 have l : ((69 : Int) != (c.toNat : Int)) = true := by rw [bne_iff_ne]; omega
 have o := eE_size
 have q := eE_1
 have t := eE_tail
 have i : ((r : Int) == 65533) = false := by rw [beq_eq_false_iff_ne]; omega
 have m : decide ((r : Int) < 128) = false := decide_eq_false oO
 have j : ¬ ((r : Int) < 128) := by omega
 have d : (Utf8.encode (r : Int))[1]'(by rw [hs]; omega) = c := b _
 have Hget := hid d
 clear hc g a f b d
 generalize eE = s at *
 go_enter func161, ntmps161
 go_wp2_with (go_at_call 184; go_must (refine (hV _).mono ?_); rintro e k ⟨rfl, rfl⟩)
 go_step3
 go_wp2_with fail
 go_loopw [9] (fun v wr => v = .int .i64 1 ∧ wr = k) (fun _ _ => 0)
 case atStart => exact ⟨rfl, rfl⟩
 case round =>
  obtain ⟨rfl, rfl⟩ := hrel
  go_wp2
  go_step3
  go_wp2_with fail
  have b := Hget.out
  go_quiet (fail)
  go_wp2_with fail
  have n : IntKind.i64.wrap 2 = 2 := rfl
  go_quiet ((go_at_call 58; exact quiet_add_same (indexByte_nil _ _)))
  go_wp2_with fail
  rw [Exit.noGoto_ret]
  simp (config := {zetaDelta := true}) only [Exit.inBlock, Exit.then, Exit.noGoto]
  go_ret
  exact ⟨rfl, by simpa using bdrewN _ _⟩
set_option maxRecDepth 100000 in
set_option maxHeartbeats 4000000 in
theorem indexRune_more (r : Nat) (w : World) (h2 : 2048 ≤ r) (hv : Utf8.valid (r : Int) = true) (h3 : r ≠ 65533) :
  Calls Tryz.prog 161 #[.string eE, .int .i32 (r : Int)] w fun e w' => e = .returned (.int .i64 (-1)) ∧ Below w.heap.size w w' := by
 have hV := fun w => (Tryz.utf8_ValidRune (r : Int) w)
 have a : Lib.validRune (r : Int) = true := by rw [← hv, Bool.eq_iff_iff]; simp [Lib.validRune, Utf8.valid]; omega
 rw [a] at hV
 have i : r < 1114112 := by simp [Utf8.valid] at hv; omega
 obtain ⟨b, c⟩ := encode_more r h2 hv
 obtain ⟨z, hz⟩ : ∃ z : Nat, (Utf8.encode (r : Int)).size = z := ⟨_, rfl⟩
 have m := eE_size
 have d : ((r : Int) == 65533) = false := by rw [beq_eq_false_iff_ne]; omega
 have j : decide ((r : Int) < 128) = false := decide_eq_false oO
 have f : ¬ ((r : Int) < 128) := by omega
 rw [hz] at b c
 clear a hv
 generalize eE = s at *
 go_enter func161, ntmps161
 go_wp2_with (go_at_call 184; go_must (refine (hV _).mono ?_); rintro e g ⟨rfl, rfl⟩)
 go_step3
 go_wp2_with fail
 go_loopw [9] (fun v wr => v = .int .i64 ((z : Int) - 1) ∧ wr = g) (fun _ _ => 0)
 case atStart => exact ⟨rfl, rfl⟩
 case round =>
  obtain ⟨rfl, rfl⟩ := hrel
  have k : decide ((z : Int) - 1 < 2) = false := decide_eq_false oO
  have l : ¬ ((z : Int) - 1 < 2) := by omega
  go_wp2
  go_ret
  exact ⟨rfl, br_ _ _⟩
set_option maxRecDepth 100000 in
set_option maxHeartbeats 4000000 in
theorem indexRune_err (w : World) :
  Calls Tryz.prog 161 #[.string eE, .int .i32 65533] w fun e w' => e = .returned (.int .i64 (-1)) ∧ Below w.heap.size w w' := by
 have k := eE_size
 have a := eE_asc
 have Hasc := hid a; clear a
 generalize eE = s at *
 go_enter func161, ntmps161
 go_wp2
 go_loopg [5, 6] 2 (fun g _ _ wx => ∃ i : Nat, i + g = 2 ∧ wx = w.iter s i)
 case atStart => exact ⟨0, by omega, rfl⟩
 case round =>
  obtain ⟨i, f, rfl⟩ := hrel
  cases gk with
  | zero =>
   obtain rfl : i = 2 := by omega
   have d := run_next_end (P := Tryz.prog) w s 2
   go_wp2
   go_ret
   exact ⟨rfl, by simpa [World.iter] using (br_ w.heap.size w).alloc (nr_ _) _⟩
  | succ g =>
   have hi : i < s.size := by omega
   have b := Hasc.out i hi
   have d := fun ty => run_next_ascii (P := Tryz.prog) w s i ty hi b
   generalize s[i].toNat = c at *
   have j : ((c : Int) == 65533) = false := by rw [beq_eq_false_iff_ne]; omega
   go_wp2
   go_roundg g
   case measure => omega
   case rel => exact ⟨i + 1, by omega, rfl⟩
theorem decode_skip (s : ByteArray) (pos : Nat) (h : pos < s.size) (ha : 128 ≤ (s[pos]'h).toNat) :
  128 ≤ (Utf8.decode s pos).1 ∧ Utf8.valid ((Utf8.decode s pos).1 : Int) = true ∧ 1 ≤ (Utf8.decode s pos).2 ∧ pos + (Utf8.decode s pos).2 ≤ s.size ∧ ∀ j, pos < j → j < pos + (Utf8.decode s pos).2 → ∀ hj : j < s.size, 128 ≤ (s[j]'hj).toNat := by
 have hn : ¬ (s[pos]'h).toNat < 128 := by omega
 have hb := (s[pos]'h).toNat_lt
 have hg : ∀ k (hk : pos + k < s.size), s.get! (pos + k) = s[pos + k]'hk := fun k hk => get_at s (pos + k) hk
 have one : ∀ j, pos < j → j < pos + 1 → ∀ hj : j < s.size, 128 ≤ (s[j]'hj).toNat := fun j _ _ _ => by omega
 have b : Utf8.valid ((Utf8.runeError : Nat) : Int) = true := by decide
 have a : 128 ≤ Utf8.runeError := by decide
 simp only [Utf8.decode, get_at s pos h, hn, if_false]
 split
 ·
  rename_i h2
  simp only [Bool.and_eq_true, decide_eq_true_eq, beq_iff_eq] at h2
  obtain ⟨e, f, c⟩ := h2
  split
  ·
   rename_i h3
   refine ⟨h3, ?_, by omega, by omega, ?_⟩
   ·
    simp [Utf8.valid]; omega
   ·
    intro j g i hj
    obtain rfl : j = pos + 1 := by omega
    rw [hg 1 hj] at c; omega
  ·
   exact ⟨a, b, by omega, by omega, one⟩
 ·
  split
  ·
   rename_i h2
   simp only [Bool.and_eq_true, decide_eq_true_eq, beq_iff_eq] at h2
   obtain ⟨⟨e, f, c⟩, l, d⟩ := h2
   split
   ·
    rename_i h3
    simp only [ge_iff_le, Bool.and_eq_true, decide_eq_true_eq] at h3
    refine ⟨by omega, h3.2, by omega, by omega, ?_⟩
    intro j g i hj
    obtain rfl | rfl : j = pos + 1 ∨ j = pos + 2 := by omega
    ·
     rw [hg 1 hj] at c; omega
    ·
     rw [hg 2 hj] at d; omega
   ·
    exact ⟨a, b, by omega, by omega, one⟩
  ·
   split
   ·
    rename_i h2
    simp only [Bool.and_eq_true, decide_eq_true_eq, beq_iff_eq] at h2
    obtain ⟨⟨⟨e, f, c⟩, l, d⟩, n, m⟩ := h2
    split
    ·
     rename_i h3
     simp only [ge_iff_le, Bool.and_eq_true, decide_eq_true_eq] at h3
     refine ⟨by omega, h3.2, by omega, by omega, ?_⟩
     intro j g i hj
     obtain rfl | rfl | rfl : j = pos + 1 ∨ j = pos + 2 ∨ j = pos + 3 := by omega
     ·
      rw [hg 1 hj] at c; omega
     ·
      rw [hg 2 hj] at d; omega
     ·
      rw [hg 3 hj] at m; omega
    ·
     exact ⟨a, b, by omega, by omega, one⟩
   ·
    exact ⟨a, b, by omega, by omega, one⟩
theorem indexRune_high (r : Nat) (w : World) (h : 128 ≤ r) (hv : Utf8.valid (r : Int) = true) :
  Calls Tryz.prog 161 #[.string eE, .int .i32 (r : Int)] w fun e w' => e = .returned (.int .i64 (-1)) ∧ Below w.heap.size w w' := by
 by_cases h2 : r < 2048
 ·
  exact indexRune_two r w h h2
 ·
  by_cases h3 : r = 65533
  ·
   subst h3; exact indexRune_err w
  ·
   exact indexRune_more r w oO hv h3
def cutE : List UInt8 → List UInt8 × List UInt8 × Bool
 | [] => ([], [], false)
 | c :: r => if isE c then ([], r, true) else (c :: (cutE r).1, (cutE r).2)
theorem cutE_len (l : List UInt8) : (cutE l).1.length + (cutE l).2.1.length ≤ l.length := by
 induction l with
 | nil => simp [cutE]
 | cons c r ih => unfold cutE; split <;> simp; omega
theorem cutE_yes_join (l : List UInt8) (h : (cutE l).2.2 = true) : ∃ c, isE c = true ∧ l = (cutE l).1 ++ c :: (cutE l).2.1 := by
 induction l with
 | nil => simp [cutE] at h
 | cons c r ih =>
  unfold cutE at h ⊢
  by_cases hc : isE c = true
  ·
   simp only [hc, if_true]; exact ⟨c, hc, rfl⟩
  ·
   simp only [hc] at h ⊢
   obtain ⟨d, hd, e⟩ := ih h
   refine ⟨d, hd, ?_⟩
   show c :: r = c :: ((cutE r).1 ++ d :: (cutE r).2.1)
   rw [← e]
def idxE (l : List UInt8) : Int := if (cutE l).2.2 then ((cutE l).1.length : Int) else -1
theorem idxE_any (l : List UInt8) : Lib.indexAny l eE.data.toList = idxE l := by
 induction l with
 | nil => rfl
 | cons c r ih =>
  have a : eE.data.toList.contains c = isE c := by
   show List.contains [101, 69] c = (c == 101 || c == 69)
   by_cases h1 : c = 101
   ·
    subst h1; rfl
   ·
    by_cases h2 : c = 69
    ·
     subst h2; rfl
    ·
     rw [beq_false_of_ne h1, beq_false_of_ne h2, List.contains, List.elem, beq_false_of_ne h1]
     show List.elem c [69] = _
     rw [List.elem, beq_false_of_ne h2]; rfl
  rw [Lib.indexAny, a, ih]
  unfold idxE
  rw [cutE]
  by_cases hc : isE c = true
  ·
   simp [hc]
  ·
   simp only [hc]
   by_cases h2 : (cutE r).2.2 = true
   ·
    simp [h2]
    try omega
   ·
    simp [h2]
theorem eE_contains : ∀ x : UInt8, 128 ≤ x.toNat → eE.data.toList.contains x = false := by
 intro x hx
 show List.contains [101, 69] x = false
 have a : x ≠ 101 := by rintro rfl; exact ab_ hx dD
 have b : x ≠ 69 := by rintro rfl; exact ab_ hx dD
 rw [List.contains, List.elem, beq_false_of_ne a]
 show List.elem x [69] = _
 rw [List.elem, beq_false_of_ne b]; rfl
set_option maxRecDepth 100000 in
set_option maxHeartbeats 4000000 in
theorem lib_IndexAny_short (s : ByteArray) (w : World) (h8 : s.size ≤ 8) :
    Calls Tryz.prog 127 #[.string s, .string eE] w fun e w' => e = .returned (.int .i64 (Lib.indexAny s.data.toList eE.data.toList)) ∧ Below w.heap.size w w' := by
  have J : eE.toList.isEmpty = false := by rw [show eE = bs [101, 69] from rfl, bs_toList]; rfl
  have Q := eE_size
  have E : decide ((8 : Int) < (s.size : Int)) = false := decide_eq_false oO
  have hU := fun n w => Tryz.strings_shouldUseASCIISet n w
  have hR := fun c (hc : c < 128) w => Tryz.strings_IndexRune_ascii eE (c : Nat) w oO oO
  have hH := fun r w h hv => indexRune_high r w h hv
  have m := fun x => Lib.contains_iff_indexByte eE.data.toList x
  have HC := hid eE_contains
  generalize eE = ch at *
  go_enter func127, ntmps127
  go_wp2_with (go_at_call 162; go_must (refine (hU _ _).mono ?_); rintro e f ⟨rfl, rfl⟩; rw [E])
  obtain ⟨B, hB⟩ : ∃ B, f.heap.size = B := ⟨_, rfl⟩
  have a : (f.iter s 0).heap[B]? = some (.stringIter s 0) := by rw [← hB]; exact World.iter_heap _ _ _
  have F : Below B f (f.iter s 0) := by rw [← hB]; exact (br_ f.heap.size f).alloc (nr_ _) _
  generalize f.iter s 0 = wi at *
  rw [hB]
  have HB := hid (show f.heap.size ≤ B by omega)
  clear hB
  go_loopg [9, 10] s.size (fun g _ _ wx => ∃ i : Nat, i + g = s.size ∧ wx.heap[B]? = some (.stringIter s i) ∧ Below B f wx ∧ Lib.NoAny s.data.toList ch.data.toList i)
  case atStart => exact ⟨0, by omega, a, F, Lib.NoAny.zero _ _⟩
  case round =>
    obtain ⟨i, K, a, o, v⟩ := hrel
    have HN := hid v
    clear v
    cases gk with
    | zero =>
      obtain rfl : i = s.size := by omega
      have q := fun ty => Lib.run_next_end_at (P := Tryz.prog) wr B s s.size ty a oO
      go_wp2
      go_ret
      exact ⟨by rw [Lib.indexAny_none (by rw [← Lib.size_eq]; exact HN.out)]; rfl, o.mono HB.out⟩
    | succ g =>
      have hi : i < s.size := by omega
      obtain ⟨x, hx⟩ : ∃ x : UInt8, s[i]'hi = x := ⟨_, rfl⟩
      have t : s.data.toList[i]? = some x := by rw [← hx]; exact Lib.data_getElem? s i hi
      by_cases hx128 : x.toNat < 128
      · have q := fun ty => Lib.run_next_ascii_at (P := Tryz.prog) wr B s i ty a hi (by rw [hx]; exact hx128)
        rw [hx] at q
        have Hx := hid t
        have Hit := hid (Lib.iterAt_heap wr B s i (i + 1) a)
        have Hb2 := hid (Lib.below_iterAt o (nr_ B) s (i + 1))
        clear t hx a
        have d := m x
        have l : ((x.toNat : Int)).toNat.toUInt8 = x := by simp
        have k := fun w => hR x.toNat hx128 w
        rw [l] at k
        clear l hR hH m hU
        cases hin : ch.data.toList.contains x
        · rw [hin] at d
          have L : ¬ ((0 : Int) ≤ Lib.indexByte ch.data.toList x) := dF d.symm
          clear d
          go_wp2_with (go_at_call 161; go_must (refine (k _).mono ?_); rintro e G ⟨rfl, rfl⟩)
          go_roundg g
          case measure => omega
          case rel => exact ⟨i + 1, by omega, Hit.out, Hb2.out, HN.out.succ Hx.out hin⟩
        · rw [hin] at d
          have M : (0 : Int) ≤ Lib.indexByte ch.data.toList x := dT d.symm
          clear d
          go_wp2_with (go_at_call 161; go_must (refine (k _).mono ?_); rintro e G ⟨rfl, rfl⟩)
          go_ret
          exact ⟨by rw [Lib.indexAny_hit HN.out Hx.out hin]; rfl, Hb2.out.mono HB.out⟩
      · obtain ⟨H, y, N, O, A⟩ := decode_skip s i hi (by rw [hx]; omega)
        have q := fun ty => Lib.run_next_any_at (P := Tryz.prog) wr B s i ty a hi
        have u : Lib.NoAny s.data.toList ch.data.toList (i + (Utf8.decode s i).2) := by
          intro j b hj hb
          by_cases hji : j < i
          · exact HN.out j b hji hb
          · have C : j < s.size := by omega
            rw [Lib.data_getElem? s j C] at hb
            have hb2 : s[j] = b := Option.some.inj hb
            have D : 128 ≤ b.toNat := by
              by_cases hje : j = i
              · subst hje; rw [← hb2, hx]; omega
              · rw [← hb2]; exact A j oO hj C
            exact HC.out b D
        have Hno2 := hid u
        clear u A t hx hR m hU
        have k := fun w => hH _ w H y
        generalize (Utf8.decode s i).1 = r at *
        generalize (Utf8.decode s i).2 = n at *
        have Hit := hid (Lib.iterAt_heap wr B s i (i + n) a)
        have Hb2 := hid (Lib.below_iterAt o (nr_ B) s (i + n))
        clear a hH y
        go_wp2_with (go_at_call 161; go_must (refine (k _).mono ?_); rintro e G ⟨rfl, hb3⟩)
        go_roundg (s.size - (i + n))
        case measure => omega
        case rel => exact ⟨i + n, by omega, (hb3.block B (Array.getElem?_eq_some_iff.1 Hit.out).1).trans Hit.out, Hb2.out.trans (hb3.mono (Nat.le_of_lt (Array.getElem?_eq_some_iff.1 Hit.out).1)), Hno2.out⟩
theorem lib_IndexAny (l : List UInt8) (w : World) (hl : l.length ≤ 1000) :
    Calls Tryz.prog 127 #[.string (bs l), .string eE] w fun e w' => e = .returned (.int .i64 (idxE l)) ∧ Below w.heap.size w w' := by
  have hd : (bs l).data.toList = l := by rw [← Lib.toList_data, bs_toList]
  rw [← idxE_any]
  by_cases h8 : l.length ≤ 8
  · have h := lib_IndexAny_short (bs l) w (by rw [bs_size]; exact h8)
    rw [hd] at h; exact h
  · have hz := zero_of_info (P := Tryz.prog) (t := 192) (v := .agg (Array.replicate 256 (.bool false))) (n := 256) kR
    have h := Tryz.strings_IndexAny_long hz.1 (bs l) eE w (by rw [eE_size]; omega) (by rw [bs_size]; omega) (by rw [bs_size]; omega) (by rw [eE_size]; omega) (by
      intro j b hj
      have a : eE.data.toList = [101, 69] := rfl
      rw [a] at hj
      have hm := List.mem_of_getElem? hj
      simp only [List.mem_cons, List.not_mem_nil, or_false] at hm
      rcases hm with rfl | rfl <;> decide)
    rw [hd] at h
    refine h.mono fun e w' ⟨c, d⟩ => ⟨c, ?_⟩
    rw [d]
    exact ((br_ w.heap.size w).alloc (nr_ _) _).alloc (by simp) _
end
section
def finL (m : Bool) (p : List UInt8) (k : Int) : TokR :=
 if mantOk p then
  (if (valueL m (wholeD ((cutDot p).1 ++ (cutDot p).2.1) ((cutDot p).1.length + k)) (restD ((cutDot p).1 ++ (cutDot p).2.1) ((cutDot p).1.length + k))).2 then
   tokReal (valueL m (wholeD ((cutDot p).1 ++ (cutDot p).2.1) ((cutDot p).1.length + k)) (restD ((cutDot p).1 ++ (cutDot p).2.1) ((cutDot p).1.length + k))).1
  else tokGreat)
 else tokNone
def realL2 (l : List UInt8) : TokR :=
 if (cutE (signedL l).2).2.2 then
  (if (powerL (cutE (signedL l).2).2.1).2 then finL (signedL l).1 (cutE (signedL l).2).1 (powerL (cutE (signedL l).2).2.1).1 else tokNone)
 else finL (signedL l).1 (signedL l).2 0
def tokenL (l : List UInt8) : TokR :=
 if 64 < l.length then tokNone
 else if (radixL l).ok then radixL l
 else if (wholeT l).2 then tokInt (wholeT l).1
 else realL2 l
theorem blay {w0 w1 w2 : World} (hb1 : Below w0.heap.size w0 w1) {o : Obj}
  (hb2 : Below (w1.alloc o).heap.size (w1.alloc o) w2) : Below w0.heap.size w0 w2 := by
 have h : Below w0.heap.size w0 (w1.alloc o) := hb1.alloc hb1.size o
 exact h.trans (hb2.mono h.size)
theorem dec_Token_long (l : List UInt8) (w : World) (hl : 64 < l.length) :
  Calls Tryz.prog 95 #[.string (bs l)] w fun e w' => e = .returned tokNone.val ∧ Below w.heap.size w w' := by
 have hs := bs_size l
 go_enter func95, ntmps95
 go_wp2_with fail
 exact bodyPost_ret (v := tokNone.val) (by simp [results, Tryz.results95, go_sem, TokR.val, tokNone]) rfl ⟨rfl, balloc (br_ _ _)⟩
set_option maxRecDepth 100000 in
set_option maxHeartbeats 4000000 in
theorem dec_Token_radix (l : List UInt8) (w : World) (hl : l.length ≤ 64) (h : (radixL l).ok = true) :
  Calls Tryz.prog 95 #[.string (bs l)] w fun e w' => e = .returned (radixL l).val ∧ Below w.heap.size w w' := by
 have hs := bs_size l
 have hR := fun w => dec_radix l w oO
 generalize radixL l = R at *
 obtain ⟨k, n, ok, er⟩ := R
 simp only at h
 subst h
 simp only [TokR.val] at hR ⊢
 go_enter func95, ntmps95
 go_wp2_with (go_at_call 125; go_must (refine (hR _).mono ?_); rintro e d ⟨rfl, hb1⟩; obtain ⟨b, c1, c, f0, f1, f2⟩ := tokCells hb1; have a := hb1.size; simp at a; replace a := Nat.lt_of_succ_le a)
 refine bodyPost_ret (v := .tuple #[.agg #[.int .i64 k, .int .i64 n, .string ⟨#[]⟩], .bool true, .int .i64 er]) (by simp [results, Tryz.results95, go_sem, b, c1, c, a]) rfl ⟨rfl, (bset3 (balloc hb1) _ _ _).alloc (by simp; omega) _⟩
set_option maxRecDepth 100000 in
set_option maxHeartbeats 4000000 in
theorem dec_Token_whole (l : List UInt8) (w : World) (hl : l.length ≤ 64) (h : (radixL l).ok = false) (h2 : (wholeT l).2 = true) :
  Calls Tryz.prog 95 #[.string (bs l)] w fun e w' => e = .returned (tokInt (wholeT l).1).val ∧ Below w.heap.size w w' := by
 have hs := bs_size l
 have hR := fun w => dec_radix l w oO
 have hW := fun w => dec_whole l w oO
 generalize radixL l = R at *
 generalize wholeT l = V at *
 obtain ⟨k, n, ok, er⟩ := R
 obtain ⟨v, vok⟩ := V
 simp only at h h2
 subst h h2
 simp only [TokR.val, tokInt] at hR hW ⊢
 go_enter func95, ntmps95
 go_wp2_with first | (go_at_call 125; go_must (refine (hR _).mono ?_); rintro e d ⟨rfl, hb1⟩; obtain ⟨b, c1, c, f0, f1, f2⟩ := tokCells hb1; have a := hb1.size; simp at a; replace a := Nat.lt_of_succ_le a) | (go_at_call 126; go_must (refine (hW _).mono ?_); rintro e f ⟨rfl, hb2⟩; replace hb2 := blay hb1 hb2; clear b c1 c f0 f1 f2; obtain ⟨b, c1, c, f0, f1, f2⟩ := tokCells hb2)
 refine bodyPost_ret (v := .tuple #[.agg #[.int .i64 1, .int .i64 v, .string ⟨#[]⟩], .bool true, .int .i64 0]) (by simp [results, Tryz.results95, go_sem, b, c1, c]) rfl ⟨rfl, bset3 (balloc hb2) _ _ _⟩
theorem powerL_bound (l : List UInt8) : -1000 ≤ (powerL l).1 ∧ (powerL l).1 ≤ 1000 := by
 unfold powerL
 split
 ·
  simp
 ·
  next h =>
  simp only [Bool.or_eq_true, decide_eq_true_eq, Bool.not_eq_true', not_or, Bool.not_eq_false] at h
  obtain ⟨⟨b, c⟩, a⟩ := h
  have d := natOf_lt (signedL l).2 (List.all_eq_true.1 a)
  have e : 10 ^ (signedL l).2.length ≤ 10 ^ 3 := Nat.pow_le_pow_right dD oO
  generalize natOf (signedL l).2 = N at *
  split
  ·
   simp only; omega
  ·
   simp only; omega
set_option maxRecDepth 100000 in
set_option maxHeartbeats 8000000 in
theorem dec_Token_plain (l : List UInt8) (w : World) (hl : l.length ≤ 64) (h : (radixL l).ok = false) (h2 : (wholeT l).2 = false) (h3 : (cutE (signedL l).2).2.2 = false) :
  Calls Tryz.prog 95 #[.string (bs l)] w fun e w' => e = .returned (finL (signedL l).1 (signedL l).2 0).val ∧ Below w.heap.size w w' := by
 have hs := bs_size l
 have hR := fun w => dec_radix l w oO
 have hW := fun w => dec_whole l w oO
 have hS := fun w => dec_signed l w oO
 have j := signedL_len l
 generalize radixL l = R at *
 generalize wholeT l = V at *
 generalize signedL l = sr at *
 obtain ⟨k, n, ok, er⟩ := R
 obtain ⟨v, vok⟩ := V
 obtain ⟨m, r⟩ := sr
 simp only at h h2 h3 j hS ⊢
 subst h h2
 simp only [TokR.val] at hR hW
 have hI : ∀ w, Calls Tryz.prog 127 #[.string (bs r), .string ⟨#[101, 69]⟩] w fun e w' => e = .returned (.int .i64 (-1)) ∧ Below w.heap.size w w' := fun w => by
  have h := lib_IndexAny r w oO
  unfold idxE at h
  rw [h3] at h
  exact h
 have hM := fun w => dec_mantissa r w oO
 have o := cutDot_len r
 have g := mantOk_digits r
 unfold finL
 generalize mantOk r = ok at *
 generalize cutDot r = pq at *
 obtain ⟨A, B, f⟩ := pq
 simp only at hM g o
 clear h3
 cases ok with
 | false =>
  clear g
  go_enter func95, ntmps95
  go_wp2_with first | (go_at_call 125; go_must (refine (hR _).mono ?_); rintro e s ⟨rfl, hb1⟩; obtain ⟨a, c1, b, f0, f1, f2⟩ := tokCells hb1; have d := hb1.size; simp at d; replace d := Nat.lt_of_succ_le d) | (go_at_call 126; go_must (refine (hW _).mono ?_); rintro e t ⟨rfl, hb2⟩; replace hb2 := blay hb1 hb2; clear a c1 b f0 f1 f2; obtain ⟨a, c1, b, f0, f1, f2⟩ := tokCells hb2) | (go_at_call 122; go_must (refine (hS _).mono ?_); rintro e u ⟨rfl, hb3⟩; replace hb3 := btr hb2 hb3; clear a c1 b f0 f1 f2; obtain ⟨a, c1, b, f0, f1, f2⟩ := tokCells hb3) | (go_at_call 127; go_must (refine (hI _).mono ?_); rintro e x ⟨rfl, hb4⟩; replace hb4 := btr hb3 hb4; clear a c1 b f0 f1 f2; obtain ⟨a, c1, b, f0, f1, f2⟩ := tokCells hb4) | (go_at_call 123; go_must (refine (hM _).mono ?_); rintro e y ⟨rfl, hb5⟩; replace hb5 := btr hb4 hb5; clear a c1 b f0 f1 f2; obtain ⟨a, c1, b, f0, f1, f2⟩ := tokCells hb5)
  exact bodyPost_ret (v := tokNone.val) (by simp [results, Tryz.results95, go_sem, a, c1, b, TokR.val, tokNone]) rfl ⟨rfl, bset3 (balloc hb5) _ _ _⟩
 | true =>
  obtain ⟨hA, hB⟩ := g rfl
  rw [if_pos rfl]
  have i : ∀ c ∈ A ++ B, isDig c = true := by
   intro c hc
   rcases List.mem_append.1 hc with h | h
   ·
    exact hA c h
   ·
    exact hB c h
  have q := fun w => dec_shift A B 0 w oO oO oO
  have hV := fun w => dec_value m (wholeD (A ++ B) (A.length + 0)) (restD (A ++ B) (A.length + 0)) w (by simp [restD]; omega) (wholeD_digits _ _ i) (restD_digits _ _ i)
  clear g hA hB i
  simp only
  generalize wholeD (A ++ B) (A.length + 0) = W at *
  generalize restD (A ++ B) (A.length + 0) = D at *
  generalize valueL m W D = vv at *
  obtain ⟨C, fit⟩ := vv
  simp only at hV
  cases fit
  all_goals
   go_enter func95, ntmps95
   go_wp2_with first | (go_at_call 125; go_must (refine (hR _).mono ?_); rintro e s ⟨rfl, hb1⟩; obtain ⟨a, c1, b, f0, f1, f2⟩ := tokCells hb1; have d := hb1.size; simp at d; replace d := Nat.lt_of_succ_le d) | (go_at_call 126; go_must (refine (hW _).mono ?_); rintro e t ⟨rfl, hb2⟩; replace hb2 := blay hb1 hb2; clear a c1 b f0 f1 f2; obtain ⟨a, c1, b, f0, f1, f2⟩ := tokCells hb2) | (go_at_call 122; go_must (refine (hS _).mono ?_); rintro e u ⟨rfl, hb3⟩; replace hb3 := btr hb2 hb3; clear a c1 b f0 f1 f2; obtain ⟨a, c1, b, f0, f1, f2⟩ := tokCells hb3) | (go_at_call 127; go_must (refine (hI _).mono ?_); rintro e x ⟨rfl, hb4⟩; replace hb4 := btr hb3 hb4; clear a c1 b f0 f1 f2; obtain ⟨a, c1, b, f0, f1, f2⟩ := tokCells hb4) | (go_at_call 123; go_must (refine (hM _).mono ?_); rintro e y ⟨rfl, hb5⟩; replace hb5 := btr hb4 hb5; clear a c1 b f0 f1 f2; obtain ⟨a, c1, b, f0, f1, f2⟩ := tokCells hb5) | (go_at_call 129; go_must (refine (q _).mono ?_); rintro e E ⟨rfl, hb6⟩; replace hb6 := btr hb5 hb6; clear a c1 b f0 f1 f2; obtain ⟨a, c1, b, f0, f1, f2⟩ := tokCells hb6) | (go_at_call 124; go_must (refine (hV _).mono ?_); rintro e F ⟨rfl, hb7⟩; replace hb7 := btr hb6 hb7; clear a c1 b f0 f1 f2; obtain ⟨a, c1, b, f0, f1, f2⟩ := tokCells hb7)
  ·
   exact bodyPost_ret (v := tokGreat.val) (by simp [results, Tryz.results95, go_sem, a, c1, b, TokR.val, tokGreat]) rfl ⟨rfl, bset3 (balloc hb7) _ _ _⟩
  ·
   exact bodyPost_ret (v := (tokReal C).val) (by simp [results, Tryz.results95, go_sem, a, c1, b, TokR.val, tokReal]) rfl ⟨rfl, bset3 (balloc hb7) _ _ _⟩
set_option maxRecDepth 100000 in
set_option maxHeartbeats 8000000 in
theorem dec_Token_power (l : List UInt8) (w : World) (hl : l.length ≤ 64) (h : (radixL l).ok = false) (h2 : (wholeT l).2 = false) (h3 : (cutE (signedL l).2).2.2 = true) :
  Calls Tryz.prog 95 #[.string (bs l)] w fun e w' => e = .returned (if (powerL (cutE (signedL l).2).2.1).2 then finL (signedL l).1 (cutE (signedL l).2).1 (powerL (cutE (signedL l).2).2.1).1 else tokNone).val ∧ Below w.heap.size w w' := by
 have hs := bs_size l
 have hR := fun w => dec_radix l w oO
 have hW := fun w => dec_whole l w oO
 have hS := fun w => dec_signed l w oO
 have j := signedL_len l
 generalize radixL l = R at *
 generalize wholeT l = V at *
 generalize signedL l = sr at *
 obtain ⟨k, n, ok, er⟩ := R
 obtain ⟨v, vok⟩ := V
 obtain ⟨m, r⟩ := sr
 simp only at h h2 h3 j hS ⊢
 subst h h2
 simp only [TokR.val] at hR hW
 have hI := fun w => lib_IndexAny r w oO
 obtain ⟨x, -, g⟩ := cutE_yes_join r h3
 have s := cutE_len r
 unfold idxE at hI
 generalize cutE r = cc at *
 obtain ⟨p, q, fd⟩ := cc
 simp only at h3 g hI s ⊢
 subst h3
 rw [if_pos rfl] at hI
 change ∀ w, Calls Tryz.prog 127 #[.string (bs r), .string ⟨#[101, 69]⟩] w _ at hI
 have y : (bs r).size = p.length + (q.length + 1) := by rw [bs_size, g]; simp
 have N : (bs r).extract (p.length + 1) (p.length + (q.length + 1)) = bs q := by
  rw [← y, ext_drop _ _ _ (bs_size r), g, List.append_cons, List.drop_left' (by simp)]
 have O : (bs r).extract 0 p.length = bs p := by
  rw [ext_take, g]; simp
 have hP := fun w => dec_power q w oO
 obtain ⟨t, u⟩ := powerL_bound q
 have P : p.length + (q.length + 1) ≤ 64 := by have h := bs_size r; omega
 have hM := fun w => dec_mantissa p w oO
 have C := cutDot_len p
 have i := mantOk_digits p
 generalize powerL q = pw at *
 obtain ⟨by', pok⟩ := pw
 unfold finL
 simp only at hP t u ⊢
 clear g j s
 cases pok with
 | false =>
  clear i
  go_enter func95, ntmps95
  go_wp2_with first | (go_at_call 125; go_must (refine (hR _).mono ?_); rintro e E ⟨rfl, hb1⟩; obtain ⟨a, c1, b, f0, f1, f2⟩ := tokCells hb1; have d := hb1.size; simp at d; replace d := Nat.lt_of_succ_le d) | (go_at_call 126; go_must (refine (hW _).mono ?_); rintro e F ⟨rfl, hb2⟩; replace hb2 := blay hb1 hb2; clear a c1 b f0 f1 f2; obtain ⟨a, c1, b, f0, f1, f2⟩ := tokCells hb2) | (go_at_call 122; go_must (refine (hS _).mono ?_); rintro e G ⟨rfl, hb3⟩; replace hb3 := btr hb2 hb3; clear a c1 b f0 f1 f2; obtain ⟨a, c1, b, f0, f1, f2⟩ := tokCells hb3) | (go_at_call 127; go_must (refine (hI _).mono ?_); rintro e H ⟨rfl, hb4⟩; replace hb4 := btr hb3 hb4; clear a c1 b f0 f1 f2; obtain ⟨a, c1, b, f0, f1, f2⟩ := tokCells hb4) | (go_at_call 128; go_must (refine (hP _).mono ?_); rintro e J ⟨rfl, hb5⟩; replace hb5 := btr hb4 hb5; clear a c1 b f0 f1 f2; obtain ⟨a, c1, b, f0, f1, f2⟩ := tokCells hb5)
  exact bodyPost_ret (v := tokNone.val) (by simp [results, Tryz.results95, go_sem, a, c1, b, TokR.val, tokNone]) rfl ⟨rfl, bset3 (balloc hb5) _ _ _⟩
 | true =>
  rw [if_pos rfl]
  generalize mantOk p = ok at *
  generalize cutDot p = pq at *
  obtain ⟨A, B, f⟩ := pq
  simp only at hM i C
  cases ok with
  | false =>
   clear i
   go_enter func95, ntmps95
   go_wp2_with first | (go_at_call 125; go_must (refine (hR _).mono ?_); rintro e E ⟨rfl, hb1⟩; obtain ⟨a, c1, b, f0, f1, f2⟩ := tokCells hb1; have d := hb1.size; simp at d; replace d := Nat.lt_of_succ_le d) | (go_at_call 126; go_must (refine (hW _).mono ?_); rintro e F ⟨rfl, hb2⟩; replace hb2 := blay hb1 hb2; clear a c1 b f0 f1 f2; obtain ⟨a, c1, b, f0, f1, f2⟩ := tokCells hb2) | (go_at_call 122; go_must (refine (hS _).mono ?_); rintro e G ⟨rfl, hb3⟩; replace hb3 := btr hb2 hb3; clear a c1 b f0 f1 f2; obtain ⟨a, c1, b, f0, f1, f2⟩ := tokCells hb3) | (go_at_call 127; go_must (refine (hI _).mono ?_); rintro e H ⟨rfl, hb4⟩; replace hb4 := btr hb3 hb4; clear a c1 b f0 f1 f2; obtain ⟨a, c1, b, f0, f1, f2⟩ := tokCells hb4) | (go_at_call 128; go_must (refine (hP _).mono ?_); rintro e J ⟨rfl, hb5⟩; replace hb5 := btr hb4 hb5; clear a c1 b f0 f1 f2; obtain ⟨a, c1, b, f0, f1, f2⟩ := tokCells hb5) | (go_at_call 123; go_must (refine (hM _).mono ?_); rintro e L ⟨rfl, hb6⟩; replace hb6 := btr hb5 hb6; clear a c1 b f0 f1 f2; obtain ⟨a, c1, b, f0, f1, f2⟩ := tokCells hb6)
   exact bodyPost_ret (v := tokNone.val) (by simp [results, Tryz.results95, go_sem, a, c1, b, TokR.val, tokNone]) rfl ⟨rfl, bset3 (balloc hb6) _ _ _⟩
  | true =>
   obtain ⟨hA, hB⟩ := i rfl
   rw [if_pos rfl]
   have o : ∀ c ∈ A ++ B, isDig c = true := by
    intro c hc
    rcases List.mem_append.1 hc with h | h
    ·
     exact hA c h
    ·
     exact hB c h
   have K := fun w => dec_shift A B by' w oO oO oO
   have hV := fun w => dec_value m (wholeD (A ++ B) (A.length + by')) (restD (A ++ B) (A.length + by')) w (by simp [restD]; omega) (wholeD_digits _ _ o) (restD_digits _ _ o)
   clear i hA hB o
   simp only
   generalize wholeD (A ++ B) (A.length + by') = W at *
   generalize restD (A ++ B) (A.length + by') = D at *
   generalize valueL m W D = vv at *
   obtain ⟨M, fit⟩ := vv
   simp only at hV
   cases fit
   all_goals
    go_enter func95, ntmps95
    go_wp2_with first | (go_at_call 125; go_must (refine (hR _).mono ?_); rintro e E ⟨rfl, hb1⟩; obtain ⟨a, c1, b, f0, f1, f2⟩ := tokCells hb1; have d := hb1.size; simp at d; replace d := Nat.lt_of_succ_le d) | (go_at_call 126; go_must (refine (hW _).mono ?_); rintro e F ⟨rfl, hb2⟩; replace hb2 := blay hb1 hb2; clear a c1 b f0 f1 f2; obtain ⟨a, c1, b, f0, f1, f2⟩ := tokCells hb2) | (go_at_call 122; go_must (refine (hS _).mono ?_); rintro e G ⟨rfl, hb3⟩; replace hb3 := btr hb2 hb3; clear a c1 b f0 f1 f2; obtain ⟨a, c1, b, f0, f1, f2⟩ := tokCells hb3) | (go_at_call 127; go_must (refine (hI _).mono ?_); rintro e H ⟨rfl, hb4⟩; replace hb4 := btr hb3 hb4; clear a c1 b f0 f1 f2; obtain ⟨a, c1, b, f0, f1, f2⟩ := tokCells hb4) | (go_at_call 128; go_must (refine (hP _).mono ?_); rintro e J ⟨rfl, hb5⟩; replace hb5 := btr hb4 hb5; clear a c1 b f0 f1 f2; obtain ⟨a, c1, b, f0, f1, f2⟩ := tokCells hb5) | (go_at_call 123; go_must (refine (hM _).mono ?_); rintro e L ⟨rfl, hb6⟩; replace hb6 := btr hb5 hb6; clear a c1 b f0 f1 f2; obtain ⟨a, c1, b, f0, f1, f2⟩ := tokCells hb6) | (go_at_call 129; go_must (refine (K _).mono ?_); rintro e Q ⟨rfl, hb7⟩; replace hb7 := btr hb6 hb7; clear a c1 b f0 f1 f2; obtain ⟨a, c1, b, f0, f1, f2⟩ := tokCells hb7) | (go_at_call 124; go_must (refine (hV _).mono ?_); rintro e T ⟨rfl, hb8⟩; replace hb8 := btr hb7 hb8; clear a c1 b f0 f1 f2; obtain ⟨a, c1, b, f0, f1, f2⟩ := tokCells hb8)
   ·
    exact bodyPost_ret (v := tokGreat.val) (by simp [results, Tryz.results95, go_sem, a, c1, b, TokR.val, tokGreat]) rfl ⟨rfl, bset3 (balloc hb8) _ _ _⟩
   ·
    exact bodyPost_ret (v := (tokReal M).val) (by simp [results, Tryz.results95, go_sem, a, c1, b, TokR.val, tokReal]) rfl ⟨rfl, bset3 (balloc hb8) _ _ _⟩
theorem dec_Token (l : List UInt8) (w : World) :
  Calls Tryz.prog 95 #[.string (bs l)] w fun e w' => e = .returned (tokenL l).val ∧ Below w.heap.size w w' := by
 unfold tokenL
 by_cases hl : 64 < l.length
 ·
  rw [if_pos hl]; exact dec_Token_long l w hl
 ·
  rw [if_neg hl]
  have hl' : l.length ≤ 64 := by omega
  cases h : (radixL l).ok with
  | true => rw [if_pos rfl]; exact dec_Token_radix l w hl' h
  | false =>
   rw [if_neg dD]
   cases h2 : (wholeT l).2 with
   | true => rw [if_pos rfl]; exact dec_Token_whole l w hl' h h2
   | false =>
    rw [if_neg dD]
    unfold realL2
    cases h3 : (cutE (signedL l).2).2.2 with
    | true => rw [if_pos rfl]; exact dec_Token_power l w hl' h h2 h3
    | false => rw [if_neg dD]; exact dec_Token_plain l w hl' h h2 h3
end
section
def blankB (c : UInt8) : Bool := c == 0 || c == 9 || c == 10 || c == 12 || c == 13 || c == 32
def endB (c : UInt8) : Bool := c == 10 || c == 12 || c == 13
def delimB (c : UInt8) : Bool := c == 40 || c == 41 || c == 60 || c == 62 || c == 91 || c == 93 || c == 123 || c == 125 || c == 47 || c == 37
def regB (c : UInt8) : Bool := !blankB c && !delimB c
theorem endB_blank {c : UInt8} (h : endB c = true) : blankB c = true := by
 simp only [endB, Bool.or_eq_true, beq_iff_eq] at h
 rcases h with (rfl | rfl) | rfl <;> rfl
def skipS : Bool → List UInt8 → List UInt8
 | _, [] => []
 | false, c :: r => if c = 37 then skipS true r else if blankB c then skipS false r else c :: r
 | true, c :: r => if endB c then skipS false (r) else skipS true r
theorem skipS_len : ∀ (l : List UInt8) (m : Bool), (skipS m l).length ≤ l.length
 | [], m => by cases m <;> simp [skipS]
 | c :: r, false => by
  have h1 := skipS_len r true; have h2 := skipS_len r false
  simp only [skipS]; split
  ·
   simp; omega
  ·
   split <;> simp <;> omega
 | c :: r, true => by
  have h1 := skipS_len r true; have h2 := skipS_len r false
  simp only [skipS]; split <;> simp <;> omega
theorem skipS_suffix : ∀ (l : List UInt8) (m : Bool), ∃ k, k ≤ l.length ∧ skipS m l = l.drop k
 | [], m => ⟨0, nr_ _, by cases m <;> rfl⟩
 | c :: r, false => by
  obtain ⟨k1, a1, b1⟩ := skipS_suffix r true; obtain ⟨k2, a2, b2⟩ := skipS_suffix r false
  simp only [skipS]; split
  ·
   exact ⟨k1 + 1, by simp; omega, by rw [b1]; rfl⟩
  ·
   split
   ·
    exact ⟨k2 + 1, by simp; omega, by rw [b2]; rfl⟩
   ·
    exact ⟨0, nl_ _, rfl⟩
 | c :: r, true => by
  obtain ⟨k1, a1, b1⟩ := skipS_suffix r true; obtain ⟨k2, a2, b2⟩ := skipS_suffix r false
  simp only [skipS]; split
  ·
   exact ⟨k2 + 1, by simp; omega, by rw [b2]; rfl⟩
  ·
   exact ⟨k1 + 1, by simp; omega, by rw [b1]; rfl⟩
def dropLF : List UInt8 → List UInt8
 | c :: r => if c = 10 then r else c :: r
 | [] => []
theorem dropLF_len (l : List UInt8) : (dropLF l).length ≤ l.length := by
 cases l with
 | nil => simp [dropLF]
 | cons c r => simp only [dropLF]; split <;> simp
def octB (c : UInt8) : Bool := decide (48 ≤ c.toNat) && decide (c.toNat ≤ 55)
def octS : Nat → Nat → List UInt8 → Nat × List UInt8
 | 0, n, l => (n, l)
 | _ + 1, n, [] => (n, [])
 | k + 1, n, c :: r => if octB c then octS k (8 * n + (c.toNat - 48)) r else (n, c :: r)
theorem octS_len : ∀ (k n : Nat) (l : List UInt8), (octS k n l).2.length ≤ l.length
 | 0, n, l => nr_ _
 | _ + 1, n, [] => nr_ _
 | k + 1, n, c :: r => by
  have := octS_len k (8 * n + (c.toNat - 48)) r
  simp only [octS]; split <;> simp <;> omega
def escS (c : UInt8) (r : List UInt8) : List UInt8 × List UInt8 :=
 if c = 110 then ([10], r) else if c = 114 then ([13], r) else if c = 116 then ([9], r) else if c = 98 then ([8], r) else if c = 102 then ([12], r)
 else if c = 10 then ([], r) else if c = 13 then ([], dropLF r)
 else if octB c then ([ch ((octS 2 (c.toNat - 48) r).1 % 256 : Nat)], (octS 2 (c.toNat - 48) r).2) else ([c], r)
theorem escS_len (c : UInt8) (r : List UInt8) : (escS c r).2.length ≤ r.length := by
 have a := dropLF_len r
 have b := octS_len 2 (c.toNat - 48) r
 unfold escS
 repeat' split
 all_goals first | exact nr_ _ | assumption
def roundS (d : Nat) (o : List UInt8) (l : List UInt8) : Option (List UInt8 × List UInt8) :=
 match l with
 | [] => none
 | c :: r =>
  if c = 40 then roundS (d + 1) (o ++ [c]) r
  else if c = 41 then (if d = 1 then some (o, r) else roundS (d - 1) (o ++ [c]) r)
  else if c = 92 then
   match r with
   | [] => none
   | e :: r' => roundS d (o ++ (escS e r').1) (escS e r').2
  else if c = 13 then roundS d (o ++ [10]) (dropLF r)
  else roundS d (o ++ [c]) r
termination_by l.length
decreasing_by
 all_goals simp_wf
 ·
  have := escS_len e r'; omega
 ·
  have := dropLF_len r; omega
def hexD (c : UInt8) : Option Nat := if hexN c < 16 then some (hexN c) else none
def hexS : Option Nat → List UInt8 → List UInt8 → Option (List UInt8 × List UInt8)
 | _, _, [] => none
 | h, o, c :: r =>
  if blankB c then hexS h o r
  else if c = 62 then some (match h with | none => o | some x => o ++ [ch (x * 16 : Nat)], r)
  else match hexD c with
   | none => none
   | some d => match h with
    | none => hexS (some d) o r
    | some x => hexS none (o ++ [ch (x * 16 + d : Nat)]) r
structure TokV where
 kind : Int
 n : Int
 text : List UInt8
def TokV.val (t : TokV) : Value := .agg #[.int .i64 t.kind, .int .i64 t.n, .string (bs t.text)]
abbrev TokE := Except Int (TokV × List UInt8)
def textS (o : Option (List UInt8 × List UInt8)) : TokE :=
 match o with
 | none => .error 14
 | some (s, r) => if 65535 < s.length then .error 9 else .ok (⟨6, 0, s⟩, r)
def nameS (k : Int) (l : List UInt8) : TokE :=
 if 127 < (l.takeWhile regB).length then .error 9 else .ok (⟨k, 0, l.takeWhile regB⟩, l.dropWhile regB)
def angleS (c : UInt8) (r : List UInt8) : TokE :=
 match r with
 | d :: r' => if d = c then .ok (⟨3, 0, [c, c]⟩, r') else if c = 60 then textS (hexS none [] (d :: r')) else .error 14
 | [] => if c = 60 then textS (hexS none [] []) else .error 14
def slashS (r : List UInt8) : TokE :=
 match r with
 | d :: r' => if d = 47 then nameS 5 r' else nameS 4 (d :: r')
 | [] => nameS 4 []
def wordS (l : List UInt8) : TokE :=
 let t := tokenL (l.takeWhile regB)
 if t.e ≠ 0 then .error t.e else if t.ok then .ok (⟨t.kind, t.n, []⟩, l.dropWhile regB) else nameS 3 l
def tokS (l : List UInt8) : TokE :=
 match skipS false l with
 | [] => .ok (⟨0, 0, []⟩, [])
 | c :: r =>
  if c = 40 then textS (roundS 1 [] r)
  else if c = 41 then .error 14
  else if c = 60 ∨ c = 62 then angleS c r
  else if c = 123 then .ok (⟨7, 0, []⟩, r)
  else if c = 125 then .ok (⟨8, 0, []⟩, r)
  else if c = 91 ∨ c = 93 then .ok (⟨3, 0, [c]⟩, r)
  else if c = 47 then slashS r
  else wordS (c :: r)
end
section
def norm (n : Int) : Int := if fitsB n then n else 0
end
section
theorem u8_eq {c d : UInt8} (h : (c.toNat : Int) = (d.toNat : Int)) : c = d := UInt8.toNat_inj.1 oO
theorem u8_ne {c d : UInt8} (h : ¬ (c.toNat : Int) = (d.toNat : Int)) : c ≠ d := fun e => h (by rw [e])
theorem u8_dec (c d : UInt8) : decide ((c.toNat : Int) = (d.toNat : Int)) = (c == d) := by
 by_cases h : c = d
 ·
  subst h; simp
 ·
  rw [beq_false_of_ne h]; exact decide_eq_false fun e => h (u8_eq e)
theorem takeWhile_drop (q : UInt8 → Bool) (l : List UInt8) (t : Nat) (h : t < l.length) : (l.drop t).takeWhile q = if q l[t] then l[t] :: (l.drop (t + 1)).takeWhile q else [] := by
 rw [List.drop_eq_getElem_cons h, List.takeWhile_cons]
def wordAt (l : List UInt8) (t : Nat) : Nat := t + ((l.drop t).takeWhile regB).length
theorem wordAt_le (l : List UInt8) (t : Nat) (h : t ≤ l.length) : t ≤ wordAt l t ∧ wordAt l t ≤ l.length := by
 have a := (List.takeWhile_sublist regB (l := l.drop t)).length_le
 rw [List.length_drop] at a
 unfold wordAt; omega
def skipAt (m : Bool) (l : List UInt8) (t : Nat) : Nat := l.length - (skipS m (l.drop t)).length
theorem skipAt_le (m : Bool) (l : List UInt8) (t : Nat) : skipAt m l t ≤ l.length := Nat.sub_le _ _
theorem skipAt_drop (m : Bool) (l : List UInt8) (t : Nat) : l.drop (skipAt m l t) = skipS m (l.drop t) := by
 obtain ⟨k, a, b⟩ := skipS_suffix (l.drop t) m
 unfold skipAt
 rw [b, List.drop_drop, List.length_drop]
 rw [List.length_drop] at a
 by_cases h : t + k ≤ l.length
 ·
  congr 1; omega
 ·
  rw [List.drop_eq_nil_of_le oO, List.drop_eq_nil_of_le oO]
theorem skipAt_f (l : List UInt8) (t : Nat) (h : t < l.length) : skipAt false l t = if l[t] = 37 then skipAt true l (t + 1) else if blankB l[t] then skipAt false l (t + 1) else t := by
 unfold skipAt
 rw [List.drop_eq_getElem_cons h]
 simp only [skipS]
 split
 ·
  rfl
 ·
  split
  ·
   rfl
  ·
   simp; omega
theorem skipAt_t (l : List UInt8) (t : Nat) (h : t < l.length) : skipAt true l t = if endB l[t] then skipAt false l (t + 1) else skipAt true l (t + 1) := by
 unfold skipAt
 rw [List.drop_eq_getElem_cons h]
 simp only [skipS]
 split <;> rfl
theorem skipAt_end (m : Bool) (l : List UInt8) (t : Nat) (h : l.length ≤ t) : skipAt m l t = l.length := by
 unfold skipAt
 rw [List.drop_eq_nil_of_le h]; cases m <;> simp [skipS]
theorem skipAt_out (l : List UInt8) (t : Nat) (h : t < l.length → endB l[t]! = true) : skipAt true l t = skipAt false l t := by
 by_cases ht : t < l.length
 ·
  have he := h ht
  rw [getElem!_pos l t ht] at he
  rw [skipAt_t l t ht, if_pos he, skipAt_f l t ht, if_pos (endB_blank he), if_neg (by rintro e; rw [e] at he; cases he)]
 ·
  rw [skipAt_end true l t oO, skipAt_end false l t oO]
def cmtB (l : List UInt8) (t : Nat) : Bool := decide (t < l.length) && !(decide (((l[t]!).toNat : Int) = 10) || decide (((l[t]!).toNat : Int) = 12) || decide (((l[t]!).toNat : Int) = 13))
theorem cmtB_eq (l : List UInt8) (t : Nat) : cmtB l t = (decide (t < l.length) && !endB l[t]!) := by
 unfold cmtB endB
 rw [← u8_dec _ 10, ← u8_dec _ 12, ← u8_dec _ 13]; rfl
theorem cmtB_t {l : List UInt8} {t : Nat} (h : cmtB l t = true) : ∃ ht : t < l.length, endB (l[t]'ht) = false := by
 rw [cmtB_eq] at h
 simp only [Bool.and_eq_true, decide_eq_true_eq, Bool.not_eq_true'] at h
 obtain ⟨a, b⟩ := h
 rw [getElem!_pos l t a] at b
 exact ⟨a, b⟩
theorem cmtB_f {l : List UInt8} {t : Nat} (h : cmtB l t = false) : skipAt true l t = skipAt false l t ∧ (∀ ht : t < l.length, (l[t]'ht) ≠ 37) := by
 rw [cmtB_eq] at h
 have a : t < l.length → endB l[t]! = true := fun ht => by simpa [ht] using h
 refine ⟨skipAt_out l t a, fun ht e => ?_⟩
 have := a ht
 rw [getElem!_pos l t ht, e] at this
 cases this
end
section
theorem inf5 : (Tryz.prog.info? 5).map (fun i => (i.zero, i.size, i.bytes)) = some (some (.int .u8 0), 1, 1) := by kernel_rfl
structure NR where
 k : Int
 n : Int
 s : List UInt8
 at' : Int
 e : Int
abbrev NR.tok (r : NR) : Value := .agg #[.int .i64 r.k, .int .i64 r.n, .string (bs r.s)]
abbrev NR.val (r : NR) : Value := .tuple #[r.tok, .int .i64 r.at', .int .i64 r.e]
def nrOf (l : List UInt8) : TokE → NR
 | .ok (t, r) => ⟨t.kind, t.n, t.text, (l.length - r.length : Nat), 0⟩
 | .error k => ⟨0, 0, [], 0, k⟩
theorem ret_val {a b : Value} (h : a = b) : Ending.returned a = .returned b := by rw [h]
def StrOk (w : World) (B : Nat) (l : List UInt8) (o : Option (List UInt8 × List UInt8)) (v : Value) (at' err : Int) : Prop :=
 match o with
 | none => err = 14
 | some (s, r) => err = 0 ∧ Own 5 B w v (byteVals s) ∧ s.length ≤ l.length ∧ ∃ k : Nat, at' = k ∧ k ≤ l.length ∧ r = l.drop k
def hexI (h : Option Nat) : Int := match h with | none => -1 | some x => x
theorem hexS_cons (h : Option Nat) (o : List UInt8) (l : List UInt8) (t : Nat) (ht : t < l.length) : hexS h o (l.drop t) =
  if blankB l[t] then hexS h o (l.drop (t + 1))
  else if l[t] = 62 then some (match h with | none => o | some x => o ++ [ch (x * 16 : Nat)], l.drop (t + 1))
  else if 15 < hexN l[t] then none else match h with
   | none => hexS (some (hexN l[t])) o (l.drop (t + 1))
   | some x => hexS none (o ++ [ch (x * 16 + hexN l[t] : Nat)]) (l.drop (t + 1)) := by
 rw [List.drop_eq_getElem_cons ht]
 simp only [hexS]
 split
 ·
  rfl
 ·
  split
  ·
   cases h <;> rfl
  ·
   unfold hexD
   by_cases h16 : hexN l[t] < 16
   ·
    rw [if_pos h16, if_neg oO] <;> cases h <;> rfl
   ·
    rw [if_neg h16, if_pos oO]
theorem ch_val (x : Int) (h0 : 0 ≤ x) (h : x < 256) : ((ch x).toNat : Int) = x := by
 unfold ch
 rw [UInt8.toNat_ofNat']; omega
theorem bF {b : Bool} (h : b = false) : ¬ b = true := by rw [h]; simp
end
section
def lfB (l : List UInt8) (t : Nat) : Bool := decide (t < l.length) && decide (((l[t]!).toNat : Int) = 10)
theorem lfB_t {l : List UInt8} {t : Nat} (h : lfB l t = true) : t < l.length ∧ dropLF (l.drop t) = l.drop (t + 1) := by
 unfold lfB at h
 simp only [Bool.and_eq_true, decide_eq_true_eq] at h
 obtain ⟨a, b⟩ := h
 rw [getElem!_pos l t a] at b
 have c : l[t] = 10 := u8_eq b
 refine ⟨a, ?_⟩
 rw [List.drop_eq_getElem_cons a]
 simp [dropLF, c]
theorem lfB_f {l : List UInt8} {t : Nat} (h : lfB l t = false) : dropLF (l.drop t) = l.drop t := by
 by_cases h1 : t < l.length
 ·
  unfold lfB at h
  rw [decide_eq_true h1, Bool.true_and, getElem!_pos l t h1] at h
  have a : l[t] ≠ 10 := u8_ne (dF h)
  rw [List.drop_eq_getElem_cons h1]
  simp [dropLF, a]
 ·
  rw [List.drop_eq_nil_of_le oO]; rfl
def octT (l : List UInt8) (k t : Nat) : Bool := decide (k < 2) && (decide (t < l.length) && (decide (48 ≤ ((l[t]!).toNat : Int)) && decide (((l[t]!).toNat : Int) ≤ 55)))
theorem octT_t {l : List UInt8} {k t : Nat} (h : octT l k t = true) : k < 2 ∧ ∃ ht : t < l.length, 48 ≤ (l[t]'ht).toNat ∧ (l[t]'ht).toNat ≤ 55 ∧ ∀ n, octS (2 - k) n (l.drop t) = octS (2 - (k + 1)) (8 * n + ((l[t]'ht).toNat - 48)) (l.drop (t + 1)) := by
 unfold octT at h
 simp only [Bool.and_eq_true, decide_eq_true_eq] at h
 obtain ⟨b, a, c, d⟩ := h
 rw [getElem!_pos l t a] at c d
 refine ⟨b, a, by omega, by omega, fun n => ?_⟩
 rw [List.drop_eq_getElem_cons a, show 2 - k = (2 - (k + 1)) + 1 by omega]
 have : octB l[t] = true := by simp [octB]; omega
 simp only [octS]
 rw [if_pos this]
theorem octT_f {l : List UInt8} {k t : Nat} (h : octT l k t = false) (n : Nat) : octS (2 - k) n (l.drop t) = (n, l.drop t) := by
  by_cases h0 : k < 2
  · rw [show 2 - k = (2 - (k + 1)) + 1 by omega]
    by_cases h1 : t < l.length
    · rw [List.drop_eq_getElem_cons h1]
      unfold octT at h
      rw [decide_eq_true h0, Bool.true_and, decide_eq_true h1, Bool.true_and, getElem!_pos l t h1] at h
      have : octB l[t] = false := by
        unfold octB
        rw [← h]; congr 1 <;> exact decide_eq_decide.2 oO
      simp only [octS]
      rw [if_neg (by rw [this]; simp)]
    · rw [List.drop_eq_nil_of_le oO]; rfl
  · rw [show 2 - k = 0 by omega]; rfl
theorem roundS_at (d : Nat) (o l : List UInt8) (s : Nat) (h : s < l.length) : roundS d o (l.drop s) =
  if l[s] = 40 then roundS (d + 1) (o ++ [l[s]]) (l.drop (s + 1))
  else if l[s] = 41 then (if d = 1 then some (o, l.drop (s + 1)) else roundS (d - 1) (o ++ [l[s]]) (l.drop (s + 1)))
  else if l[s] = 92 then
   match l.drop (s + 1) with
   | [] => none
   | e :: r' => roundS d (o ++ (escS e r').1) (escS e r').2
  else if l[s] = 13 then roundS d (o ++ [10]) (dropLF (l.drop (s + 1)))
  else roundS d (o ++ [l[s]]) (l.drop (s + 1)) := by
 rw [List.drop_eq_getElem_cons h]
 exact roundS.eq_def d o (l[s] :: l.drop (s + 1))
theorem esc110 (r : List UInt8) : escS 110 r = ([10], r) := rfl
theorem esc114 (r : List UInt8) : escS 114 r = ([13], r) := rfl
theorem esc116 (r : List UInt8) : escS 116 r = ([9], r) := rfl
theorem esc98 (r : List UInt8) : escS 98 r = ([8], r) := rfl
theorem esc102 (r : List UInt8) : escS 102 r = ([12], r) := rfl
theorem esc10 (r : List UInt8) : escS 10 r = ([], r) := rfl
theorem esc13 (r : List UInt8) : escS 13 r = ([], dropLF r) := rfl
theorem esc_oct {y : UInt8} (r : List UInt8) (h1 : 48 ≤ (y.toNat : Int)) (h2 : (y.toNat : Int) ≤ 55) : escS y r = ([ch ((octS 2 (y.toNat - 48) r).1 % 256 : Nat)], (octS 2 (y.toNat - 48) r).2) := by
 have ne : ∀ c : UInt8, (c.toNat < 48 ∨ 55 < c.toNat) → y ≠ c := fun c hc e => by subst e; omega
 unfold escS
 rw [if_neg (ne 110 dD), if_neg (ne 114 dD), if_neg (ne 116 dD), if_neg (ne 98 dD), if_neg (ne 102 dD), if_neg (ne 10 dD), if_neg (ne 13 dD),
  if_pos (by simp only [octB, Bool.and_eq_true, decide_eq_true_eq]; omega)]
theorem esc_else {y : UInt8} (r : List UInt8) (h1 : ¬ (y.toNat : Int) = 110) (h2 : ¬ (y.toNat : Int) = 114) (h3 : ¬ (y.toNat : Int) = 116) (h4 : ¬ (y.toNat : Int) = 98) (h5 : ¬ (y.toNat : Int) = 102) (h6 : ¬ (y.toNat : Int) = 10) (h7 : ¬ (y.toNat : Int) = 13)
  (h8 : ¬ (48 ≤ (y.toNat : Int) ∧ (y.toNat : Int) ≤ 55)) : escS y r = ([y], r) := by
 unfold escS
 rw [if_neg (u8_ne (d := 110) h1), if_neg (u8_ne (d := 114) h2), if_neg (u8_ne (d := 116) h3), if_neg (u8_ne (d := 98) h4), if_neg (u8_ne (d := 102) h5), if_neg (u8_ne (d := 10) h6), if_neg (u8_ne (d := 13) h7),
  if_neg (by simp only [octB, Bool.and_eq_true, decide_eq_true_eq]; omega)]
end
section
def tokC (c : UInt8) (r : List UInt8) : TokE :=
 if c = 40 then textS (roundS 1 [] r)
 else if c = 41 then .error 14
 else if c = 60 ∨ c = 62 then angleS c r
 else if c = 123 then .ok (⟨7, 0, []⟩, r)
 else if c = 125 then .ok (⟨8, 0, []⟩, r)
 else if c = 91 ∨ c = 93 then .ok (⟨3, 0, [c]⟩, r)
 else if c = 47 then slashS r
 else wordS (c :: r)
theorem tokS_end {l : List UInt8} {n s : Nat} (h : l.drop s = skipS false (l.drop n)) (hs : l.length ≤ s) : tokS (l.drop n) = .ok (⟨0, 0, []⟩, []) := by
 unfold tokS
 rw [← h, List.drop_eq_nil_of_le hs]
theorem tokS_at {l : List UInt8} {n s : Nat} (h : l.drop s = skipS false (l.drop n)) (hs : s < l.length) : tokS (l.drop n) = tokC l[s] (l.drop (s + 1)) := by
 unfold tokS
 rw [← h, List.drop_eq_getElem_cons hs]; rfl
theorem angle_eq {l : List UInt8} {s : Nat} {c d : UInt8} (hc : c ≠ 0) (hd : d = (l[s]?).getD 0) : angleS c (l.drop s) = if d = c then .ok (⟨3, 0, [c, c]⟩, l.drop (s + 1)) else if c = 60 then textS (hexS none [] (l.drop s)) else .error 14 := by
  by_cases h : s < l.length
  · rw [List.drop_eq_getElem_cons h]
    rw [List.getElem?_eq_getElem h] at hd
    obtain rfl : d = l[s] := hd
    rfl
  · rw [List.drop_eq_nil_of_le oO]
    rw [List.getElem?_eq_none oO] at hd
    obtain rfl : d = 0 := hd
    rw [if_neg (fun e => hc e.symm)]; rfl
theorem slash_eq {l : List UInt8} {s : Nat} {d : UInt8} (hd : d = (l[s]?).getD 0) : slashS (l.drop s) = if d = 47 then nameS 5 (l.drop (s + 1)) else nameS 4 (l.drop s) := by
  by_cases h : s < l.length
  · rw [List.drop_eq_getElem_cons h]
    rw [List.getElem?_eq_getElem h] at hd
    obtain rfl : d = l[s] := hd
    rfl
  · rw [List.drop_eq_nil_of_le oO]
    rw [List.getElem?_eq_none oO] at hd
    obtain rfl : d = 0 := hd
    rw [if_neg dD]; rfl
theorem tokC_word {c : UInt8} (r : List UInt8) (h1 : ¬ (c.toNat : Int) = 40) (h2 : ¬ (c.toNat : Int) = 41) (h3 : ¬ (c.toNat : Int) = 60) (h4 : ¬ (c.toNat : Int) = 62) (h5 : ¬ (c.toNat : Int) = 123) (h6 : ¬ (c.toNat : Int) = 125) (h7 : ¬ (c.toNat : Int) = 91)
  (h8 : ¬ (c.toNat : Int) = 93) (h9 : ¬ (c.toNat : Int) = 47) : tokC c r = wordS (c :: r) := by
 unfold tokC
 rw [if_neg (u8_ne (d := 40) h1), if_neg (u8_ne (d := 41) h2), if_neg (not_or.2 ⟨u8_ne (d := 60) h3, u8_ne (d := 62) h4⟩), if_neg (u8_ne (d := 123) h5), if_neg (u8_ne (d := 125) h6), if_neg (not_or.2 ⟨u8_ne (d := 91) h7, u8_ne (d := 93) h8⟩), if_neg (u8_ne (d := 47) h9)]
theorem word_take (l : List UInt8) (s : Nat) : (l.drop s).take (wordAt l s - s) = (l.drop s).takeWhile regB := by
 unfold wordAt
 rw [Nat.add_sub_cancel_left]
 conv => lhs; arg 2; rw [← List.takeWhile_append_dropWhile (p := regB) (l := l.drop s)]
 rw [List.take_left']; rfl
theorem word_drop (l : List UInt8) (s : Nat) : (l.drop s).dropWhile regB = l.drop (wordAt l s) := by
 unfold wordAt
 rw [← List.drop_drop]
 conv => rhs; arg 2; rw [← List.takeWhile_append_dropWhile (p := regB) (l := l.drop s)]
 rw [List.drop_left']; rfl
theorem nrOf_drop (l : List UInt8) (t : TokV) (k : Nat) (hk : k ≤ l.length) : nrOf l (.ok (t, l.drop k)) = ⟨t.kind, t.n, t.text, k, 0⟩ := by
 simp only [nrOf, List.length_drop]
 rw [show l.length - (l.length - k) = k by omega]
theorem tokC40 (r : List UInt8) : tokC 40 r = textS (roundS 1 [] r) := rfl
theorem tokC41 (r : List UInt8) : tokC 41 r = .error 14 := rfl
theorem tokC60 (r : List UInt8) : tokC 60 r = angleS 60 r := rfl
theorem tokC62 (r : List UInt8) : tokC 62 r = angleS 62 r := rfl
theorem tokC123 (r : List UInt8) : tokC 123 r = .ok (⟨7, 0, []⟩, r) := rfl
theorem tokC125 (r : List UInt8) : tokC 125 r = .ok (⟨8, 0, []⟩, r) := rfl
theorem tokC91 (r : List UInt8) : tokC 91 r = .ok (⟨3, 0, [91]⟩, r) := rfl
theorem tokC93 (r : List UInt8) : tokC 93 r = .ok (⟨3, 0, [93]⟩, r) := rfl
theorem tokC47 (r : List UInt8) : tokC 47 r = slashS r := rfl
def nextR (l : List UInt8) (a : Int) : NR := if a < 0 ∨ (l.length : Int) < a then ⟨0, 0, [], 0, 21⟩ else nrOf l (tokS (l.drop a.toNat))
end
section
theorem idx_blank : ∀ c : UInt8, decide (0 ≤ Lib.indexByte [0, 9, 10, 12, 13, 32] c) = blankB c := by
 intro c
 have key : ∀ n : Fin 256, decide (0 ≤ Lib.indexByte [0, 9, 10, 12, 13, 32] (UInt8.ofNat n.1)) = blankB (UInt8.ofNat n.1) := by decide +kernel
 have := key ⟨c.toNat, UInt8.toNat_lt c⟩
 simpa using this
theorem idx_delim : ∀ c : UInt8, decide (Lib.indexByte [40, 41, 60, 62, 91, 93, 123, 125, 47, 37] c < 0) = !delimB c := by
 intro c
 have key : ∀ n : Fin 256, decide (Lib.indexByte [40, 41, 60, 62, 91, 93, 123, 125, 47, 37] (UInt8.ofNat n.1) < 0) = !delimB (UInt8.ofNat n.1) := by decide +kernel
 have := key ⟨c.toNat, UInt8.toNat_lt c⟩
 simpa using this
theorem idx_end : ∀ c : UInt8, decide (Lib.indexByte [10, 12, 13] c < 0) = !endB c := by
 intro c
 have key : ∀ n : Fin 256, decide (Lib.indexByte [10, 12, 13] (UInt8.ofNat n.1) < 0) = !endB (UInt8.ofNat n.1) := by decide +kernel
 have := key ⟨c.toNat, UInt8.toNat_lt c⟩
 simpa using this
theorem lib_ib (l : List UInt8) (c : UInt8) (w : World) : Calls Tryz.prog 58 #[.string (bs l), .int .u8 (c.toNat : Int)] w fun e w' => e = .returned (.int .i64 (Lib.indexByte l c)) ∧ w = w' := by
 refine (Tryz.strings_IndexByte (bs l) (c.toNat : Int) w).mono fun e w' h => ⟨?_, h.2.symm⟩
 rw [h.1]
 have : (bs l).data.toList = l := by simp [bs]
 rw [this]
 have : ((c.toNat : Int).toNat).toUInt8 = c := by rw [Int.toNat_natCast]; exact UInt8.ofNat_toNat
 rw [this]
theorem scan_blank (c : UInt8) (w : World) :
  Calls Tryz.prog 176 #[.int .u8 (c.toNat : Int)] w fun e w' => e = .returned (.bool (blankB c)) ∧ w = w' := by
 refine W.e func176 rfl ntmps176 bL ?_
 refine W.sr <| WL.Z rfl <| W.sr <| WL.M rfl <| WL.c1 hB_ rfl rfl ((lib_ib [0, 9, 10, 12, 13, 32] c _)) (fun b a => ?_)
 obtain rfl := a
 refine WL.O (.bis (blankB c) (.geq rfl rfl) (by exact idx_blank c)) <| WL.Z rfl <| W.ret (W.r1 rfl rfl ?_)
 exact ⟨rfl, rfl⟩
theorem scan_regular (c : UInt8) (w : World) :
  Calls Tryz.prog 182 #[.int .u8 (c.toNat : Int)] w fun e w' => e = .returned (.bool (regB c)) ∧ w = w' := by
 refine W.e func182 rfl ntmps182 bL ?_
 refine W.sr <| WL.Z rfl <| W.sr <| WL.M rfl <| WL.c1 hB_ rfl rfl ((scan_blank c _)) (fun g b => ?_)
 obtain rfl := b
 refine WL.O (.not rfl) <| WL.M rfl <| WL.gd rfl rfl rfl (fun a => ?_) (fun a => ?_)
 have d := (nT a)
 refine WL.M rfl <| WL.gy rfl rfl rfl (by rw [(nT a)] <;> rfl) <| WL.c1 hB_ rfl rfl ((lib_ib [40, 41, 60, 62, 91, 93, 123, 125, 47, 37] c _)) (fun i f => ?_)
 obtain rfl := f
 refine WL.gy rfl rfl rfl (by rw [(nT a)] <;> rfl) <| WL.O (.bis (!delimB c) (.lss rfl rfl) (by exact idx_delim c)) <| WL.O (.pkT rfl (by rw [(nT a)] <;> rfl) rfl) <| WL.Z rfl <| W.ret (W.r1 rfl rfl ?_)
 exact ⟨ret_bool (by unfold regB; simp_all), rfl⟩
 have d := (nF a)
 refine WL.gn rfl rfl rfl (by rw [(nF a)] <;> rfl) <| WL.gn rfl rfl rfl (by rw [(nF a)] <;> rfl) <| WL.O (.pkF rfl (by rw [(nF a)] <;> rfl) rfl) <| WL.Z rfl <| W.ret (W.r1 rfl rfl ?_)
 exact ⟨ret_bool (by unfold regB; simp_all), rfl⟩
def RdOk (w : World) (r : Nat) (p : Option Addr) (l : List UInt8) (c t : Nat) : Prop := Blk w r #[.slice p l.length c, .int .i64 (t : Int)] 180 ∧ BytesAt w p l
theorem scan_more (r : Nat) (p : Option Addr) (l : List UInt8) (c t : Nat) (w : World) (h : RdOk w r p l c t) :
  Calls Tryz.prog 150 #[.pointer (some ⟨r, 0, none⟩)] w fun e w' => e = .returned (.bool (decide (t < l.length))) ∧ Drew w w' := by
 have hr := h.1
 refine W.e func150 rfl ntmps150 bL ?_
 refine W.sr <| WL.Z rfl <| W.seq <| W.regQ mixed kR <| WQ.p (.mv rfl) rfl <| WQ.p (.nck rfl) rfl <| WQ.p (.fa u180_ rfl s3_ dD rfl) rfl <| WQ.r (fun m => Rd.ld (g3_ _) rfl hr rfl) rfl <| WQ.p (.mv rfl) rfl <| WQ.p (.nck rfl) rfl <| WQ.p (.fa u180_ rfl s22_ dD rfl) rfl <| WQ.r (fun m => Rd.ld (g22_ _) rfl hr rfl) rfl <| WQ.p (.lenS u22_ rfl) rfl <| WQ.p (.lss rfl rfl) rfl <| WQ.p (.as rfl) rfl <| WQ.nil (fun b a => ?_)
 refine W.ret (W.r1 rfl rfl ?_)
 exact ⟨ret_bool (by (apply Bool.eq_iff_iff.2; (try simp only [Bool.and_eq_true, Bool.or_eq_true, Bool.not_eq_true', decide_eq_true_eq, decide_eq_false_iff_not, Bool.false_eq_true, Bool.not_eq_false', false_iff, iff_false, true_iff, iff_true]); omega)), by assumption⟩
theorem more_q (r : Nat) (p : Option Addr) (l : List UInt8) (c t : Nat) (w : World) (h : RdOk w r p l c t) (m : Nat) :
  Calls Tryz.prog 150 #[.pointer (some ⟨r, 0, none⟩)] (w.drewN m) fun e w' => e = .returned (.bool (decide (t < l.length))) ∧ ∃ k, w' = w.drewN k :=
 (scan_more r p l c t (w.drewN m) ⟨h.1, h.2.drewN m⟩).mono fun e w' h => ⟨h.1, Drew.trans ⟨m, rfl⟩ h.2⟩
def takeS (l : List UInt8) (t : Nat) : Except Int UInt8 := match l[t]? with | some x => .ok x | none => .error 14
theorem scan_take (r : Nat) (p : Option Addr) (l : List UInt8) (c t : Nat) (w : World) (h : RdOk w r p l c t) (hne : 0 < l.length → (pA p).block ≠ r) (hl : l.length ≤ 100000000) :
  Calls Tryz.prog 177 #[.pointer (some ⟨r, 0, none⟩)] w (Ends 30 (takeS l t) (fun x => .int .u8 (x.toNat : Int)) (fun _ w' => RdOk w' r p l c (t + 1) ∧ Touch w.heap.size r w w') (fun w' => Touch w.heap.size r w w')) := by
 have hr := h.1
 have hb := h.2
 refine W.e func177 rfl ntmps177 bL ?_
 have v := Touch.refl (w.heap.size) r w
 refine W.sr <| WL.Z rfl <| W.seq <| W.sr <| WL.M rfl <| WL.c1 hB_ rfl rfl ((scan_more r p l c t _ ⟨hr, hb⟩)) (fun E d => ?_)
 have i := hr.drew d
 have y := hb.drew d
 have j := tt_ v (td_ d)
 refine WL.O (.not rfl) <| WL.e <| W.cond rfl (fun o => ?_) (fun o => ?_)
 have A := (nT o)
 refine W.reg <| WL.O (.mkI u30_ rfl) <| WL.panic rfl (pn_is ?_)
 exact Ends.err 14 (by unfold takeS; rw [List.getElem?_eq_none (by simp_all)]) j
 have A := (nF o)
 have n : t < l.length := by simp_all
 refine W.k <| W.sr <| WL.M rfl <| WL.O (.nck rfl) <| WL.O (.fa u180_ rfl s3_ dD rfl) <| WL.R (Rd.ld (g3_ _) rfl i rfl) <| WL.O (.iis (((t + 1 : Nat) : Int)) (.add rfl rfl (i64w oO)) oO) <| WL.O (.nck rfl) <| WL.O (.fa u180_ rfl s3_ dD rfl) <| WL.st s3_ rfl rfl rfl i oD (fun C a b D => ?_)
 have a : Blk C r _ _ := a
 have b : Upd r _ _ := b
 have f := BytesAt.upd y b hne
 have B := tt_ j (Touch.of_upd b)
 refine WL.e <| W.seq <| W.regQ mixed kR <| WQ.p (.mv rfl) rfl <| WQ.p (.nck rfl) rfl <| WQ.p (.fa u180_ rfl s22_ dD rfl) rfl <| WQ.r (fun m => Rd.ld (g22_ _) rfl a rfl) rfl <| WQ.p (.mv rfl) rfl <| WQ.p (.nck rfl) rfl <| WQ.p (.fa u180_ rfl s3_ dD rfl) rfl <| WQ.r (fun m => Rd.ld (g3_ _) rfl a rfl) rfl <| WQ.p (.iis ((t : Int)) (.sub rfl rfl (i64w oO)) oO) rfl <| WQ.p (.ixb u22_ s5_ rfl rfl (f.isp (by first | omega | exact nz_ _)) (t) oO oO) rfl <| WQ.r (fun m => Rd.ldc (g5_ _) rfl ((f.drewN m).cells (t) oO)) rfl <| WQ.p (.as rfl) rfl <| WQ.nil (fun F g => ?_)
 have q := a.drew g
 have s := f.drew g
 have u := tt_ B (td_ g)
 refine W.ret (W.r1 rfl rfl ?_)
 exact Ends.ok (l[t]'n) (by unfold takeS; rw [List.getElem?_eq_getElem n]) rfl ⟨⟨q, s⟩, u⟩
def nextB (l : List UInt8) (t : Nat) (x : UInt8) : Bool := decide (t < l.length) && decide (((l[t]!).toNat : Int) = (x.toNat : Int))
theorem nextB_t {l : List UInt8} {t : Nat} {x : UInt8} (h : nextB l t x = true) : ∃ ht : t < l.length, l[t]'ht = x := by
 unfold nextB at h
 simp only [Bool.and_eq_true, decide_eq_true_eq] at h
 obtain ⟨a, b⟩ := h
 rw [getElem!_pos l t a] at b
 exact ⟨a, u8_eq b⟩
theorem nextB_f {l : List UInt8} {t : Nat} {x : UInt8} (h : nextB l t x = false) (ht : t < l.length) : l[t] ≠ x := by
 unfold nextB at h
 rw [decide_eq_true ht, Bool.true_and, getElem!_pos l t ht] at h
 exact u8_ne (dF h)
theorem scan_next (r : Nat) (p : Option Addr) (l : List UInt8) (c t : Nat) (x : UInt8) (w : World) (h : RdOk w r p l c t) (hne : 0 < l.length → (pA p).block ≠ r) (hl : l.length ≤ 100000000) (ht : t ≤ l.length) :
  Calls Tryz.prog 179 #[.pointer (some ⟨r, 0, none⟩), .int .u8 (x.toNat : Int)] w fun e w' => e = .returned (.bool (nextB l t x)) ∧ RdOk w' r p l c (if nextB l t x then t + 1 else t) ∧ Touch w.heap.size r w w' := by
 have hr := h.1
 have hb := h.2
 refine W.e func179 rfl ntmps179 bL ?_
 have q := Touch.refl (w.heap.size) r w
 refine W.sr <| WL.Z rfl <| W.seq <| W.cutBQ 20 (nextB l t x) ?_ (fun C g => ?_)
 refine W.regQ mixed kR <| WQ.p (.mv rfl) rfl <| WQ.c1 hB_ rfl rfl (fun m => (more_q r p l c t _ ⟨hr, hb⟩ m)) <| WQ.p (.mv rfl) rfl <| WQ.gd rfl rfl rfl (fun a => ?_) (fun a => ?_)
 have s := dT a
 refine WQ.p (.mv rfl) rfl <| WQ.gy rfl rfl rfl a <| WQ.p (.nck rfl) rfl <| WQ.gy rfl rfl rfl a <| WQ.p (.fa u180_ rfl s22_ dD rfl) rfl <| WQ.gy rfl rfl rfl a <| WQ.r (fun m => Rd.ld (g22_ _) rfl hr rfl) rfl <| WQ.gy rfl rfl rfl a <| WQ.p (.mv rfl) rfl <| WQ.gy rfl rfl rfl a <| WQ.p (.nck rfl) rfl <| WQ.gy rfl rfl rfl a <| WQ.p (.fa u180_ rfl s3_ dD rfl) rfl <| WQ.gy rfl rfl rfl a <| WQ.r (fun m => Rd.ld (g3_ _) rfl hr rfl) rfl <| WQ.gy rfl rfl rfl a <| WQ.p (.ixb u22_ s5_ rfl rfl (hb.isp (by first | omega | exact nz_ _)) (t) oO oO) rfl <| WQ.gy rfl rfl rfl a <| WQ.r (fun m => Rd.ldc (g5_ _) rfl ((hb.drewN m).cells (t) oO)) rfl <| WQ.gy rfl rfl rfl a <| WQ.p (.mv rfl) rfl <| WQ.gy rfl rfl rfl a <| WQ.p (.eql rfl rfl) rfl <| WQ.p (.pkT rfl a rfl) rfl <| WQ.nil (fun D u => ?_)
 exact ⟨leE (lk_b rfl (by (by_cases hq : t < l.length) <;> (unfold nextB; first | (exfalso; simp_all; done) | (rw [getElem!_pos l t hq]; simp_all; done) | (rw [decide_eq_false hq]; simp_all; done)))), u⟩
 have s := dF a
 refine WQ.gn rfl rfl rfl a <| WQ.gn rfl rfl rfl a <| WQ.gn rfl rfl rfl a <| WQ.gn rfl rfl rfl a <| WQ.gn rfl rfl rfl a <| WQ.gn rfl rfl rfl a <| WQ.gn rfl rfl rfl a <| WQ.gn rfl rfl rfl a <| WQ.gn rfl rfl rfl a <| WQ.gn rfl rfl rfl a <| WQ.gn rfl rfl rfl a <| WQ.p (.pkF rfl a rfl) rfl <| WQ.nil (fun E v => ?_)
 exact ⟨leE (lk_b rfl (by (by_cases hq : t < l.length) <;> (unfold nextB; first | (exfalso; simp_all; done) | (rw [getElem!_pos l t hq]; simp_all; done) | (rw [decide_eq_false hq]; simp_all; done)))), v⟩
 have f := hr.drew g
 have i := hb.drew g
 have j := tt_ q (td_ g)
 refine W.cond rfl (fun y => ?_) (fun y => ?_)
 refine W.sr <| WL.M rfl <| WL.O (.nck rfl) <| WL.O (.fa u180_ rfl s3_ dD rfl) <| WL.R (Rd.ld (g3_ _) rfl f rfl) <| WL.O (.iis (((t + 1 : Nat) : Int)) (.add rfl rfl (i64w oO)) oO) <| WL.O (.nck rfl) <| WL.O (.fa u180_ rfl s3_ dD rfl) <| WL.st s3_ rfl rfl rfl f oD (fun A d b B => ?_)
 have d : Blk A r _ _ := d
 have b : Upd r _ _ := b
 have n := BytesAt.upd i b hne
 have o := tt_ j (Touch.of_upd b)
 refine WL.e <| W.sr <| WL.Z rfl <| W.ret (W.r1 rfl rfl ?_)
 exact ⟨ret_bool (by simp_all), by rw [if_pos aS]; exact ⟨d, n⟩, o⟩
 refine W.k <| W.sr <| WL.Z rfl <| W.ret (W.r1 rfl rfl ?_)
 exact ⟨ret_bool (by simp_all), by rw [if_neg (bF aS)]; exact ⟨f, i⟩, j⟩
theorem ib_q (l : List UInt8) (c : UInt8) (w : World) (m : Nat) : Calls Tryz.prog 58 #[.string (bs l), .int .u8 (c.toNat : Int)] (w.drewN m) fun e w' => e = .returned (.int .i64 (Lib.indexByte l c)) ∧ ∃ k, w' = w.drewN k :=
 (lib_ib l c (w.drewN m)).mono fun e w' h => ⟨h.1, m, h.2.symm⟩
theorem scan_skip (r : Nat) (p : Option Addr) (l : List UInt8) (c a : Nat) (w : World) (h : RdOk w r p l c a) (hne : 0 < l.length → (pA p).block ≠ r) (hl : l.length ≤ 100000000) (ha : a ≤ l.length) :
  Calls Tryz.prog 149 #[.pointer (some ⟨r, 0, none⟩)] w fun e w' => e = .returned (.tuple #[]) ∧ RdOk w' r p l c (skipAt false l a) ∧ Touch w.heap.size r w w' := by
 have hr := h.1
 have hb := h.2
 obtain ⟨R, hR⟩ : ∃ R, R = skipAt false l a := ⟨_, rfl⟩
 rw [← hR]
 refine W.e func149 rfl ntmps149 bL ?_
 refine W.b <| W.loop (α := Nat) (fun t => [(0, .pointer (some ⟨r, 0, none⟩))]) (fun t w' => RdOk w' r p l c t ∧ Touch w.heap.size r w w' ∧ t ≤ l.length ∧ skipAt false l t = R) (fun t => l.length - t) (a) ⟨rfl, tT⟩ (⟨h, Touch.refl _ _ _, ha, hR.symm⟩) (fun t w1 hR => ?_)
 obtain ⟨u, hT, ht, hw⟩ := hR
 obtain ⟨s, rfl⟩ : ∃ s, s = t := ⟨t, rfl⟩
 refine W.seq <| W.sr <| WL.M rfl <| WL.c1 hB_ rfl rfl ((scan_more r p l c s _ ⟨u.1, u.2⟩)) (fun w1 A => ?_)
 have v := u.1.drew A
 have x := u.2.drew A
 have J := tt_ hT (td_ A)
 refine WL.e <| W.cond rfl (fun L => ?_) (fun L => ?_)
 have a1 := dT L
 have hs := skipAt_f l s oO
 refine W.k <| W.b <| W.seq <| W.regQ mixed kR <| WQ.p (.mv rfl) rfl <| WQ.p (.nck rfl) rfl <| WQ.p (.fa u180_ rfl s22_ dD rfl) rfl <| WQ.r (fun m => Rd.ld (g22_ _) rfl v rfl) rfl <| WQ.p (.mv rfl) rfl <| WQ.p (.nck rfl) rfl <| WQ.p (.fa u180_ rfl s3_ dD rfl) rfl <| WQ.r (fun m => Rd.ld (g3_ _) rfl v rfl) rfl <| WQ.p (.ixb u22_ s5_ rfl rfl (x.isp (by first | omega | exact nz_ _)) (s) oO oO) rfl <| WQ.r (fun m => Rd.ldc (g5_ _) rfl ((x.drewN m).cells (s) oO)) rfl <| WQ.p (.as rfl) rfl <| WQ.nil (fun w6 B => ?_)
 have y := v.drew B
 have C := x.drew B
 have D := tt_ J (td_ B)
 refine W.b <| W.sr <| WL.M rfl <| WL.c1 hB_ rfl rfl ((scan_blank _ _)) (fun ab N => ?_)
 obtain rfl := N
 refine WL.Z rfl <| W.cond rfl (fun a2 => ?_) (fun a2 => ?_)
 refine W.reg <| WL.M rfl <| WL.O (.nck rfl) <| WL.O (.fa u180_ rfl s3_ dD rfl) <| WL.R (Rd.ld (g3_ _) rfl y rfl) <| WL.O (.iis (((s + 1 : Nat) : Int)) (.add rfl rfl (i64w oO)) oO) <| WL.O (.nck rfl) <| WL.O (.fa u180_ rfl s3_ dD rfl) <| WL.st s3_ rfl rfl rfl y oD (fun a3 j g a9 => ?_)
 have j : Blk a3 r _ _ := j
 have g : Upd r _ _ := g
 have P := BytesAt.upd C g hne
 have Q := tt_ D (Touch.of_upd g)
 refine WL.e <| ?_
 exact ⟨s + 1, ⟨rfl, tT⟩, ⟨⟨j, P⟩, Q, by omega, by rw [← hw, hs, if_neg (fun e => ab_ (show blankB (l[s]'oO) = true by assumption) (by rw [e]; decide)), if_pos aS]⟩, by omega⟩
 refine W.sr <| WL.M rfl <| WL.O (.eql rfl rfl) <| WL.Z rfl <| W.cond rfl (fun E => ?_) (fun E => ?_)
 have T := dT E
 refine W.b <| W.loop (α := Nat) (fun t => [(0, .pointer (some ⟨r, 0, none⟩))]) (fun t w' => RdOk w' r p l c t ∧ Touch w.heap.size r w w' ∧ s ≤ t ∧ t ≤ l.length ∧ skipAt true l t = R ∧ (t = s → l[s]'oO = 37)) (fun t => l.length - t) (s) ⟨rfl, tT⟩ (⟨⟨y, C⟩, D, by omega, by omega, by rw [skipAt_t l s oO, if_neg (by rw [show l[s] = 37 from u8_eq aS]; decide), ← hw, hs, if_pos (u8_eq aS)], fun _ => u8_eq aS⟩) (fun t w1 hR => ?_)
 obtain ⟨f, a4, ac, ad, a5, a6⟩ := hR
 refine W.seq <| W.cutBQ 43 (cmtB l t) ?_ (fun ae o => ?_)
 refine W.regQ mixed kR <| WQ.p (.mv rfl) rfl <| WQ.c1 hB_ rfl rfl (fun m => (more_q r p l c t _ ⟨f.1, f.2⟩ m)) <| WQ.p (.mv rfl) rfl <| WQ.gd rfl rfl rfl (fun d => ?_) (fun d => ?_)
 have U := dT d
 refine WQ.p (.mv rfl) rfl <| WQ.gy rfl rfl rfl d <| WQ.p (.nck rfl) rfl <| WQ.gy rfl rfl rfl d <| WQ.p (.fa u180_ rfl s22_ dD rfl) rfl <| WQ.gy rfl rfl rfl d <| WQ.r (fun m => Rd.ld (g22_ _) rfl f.1 rfl) rfl <| WQ.gy rfl rfl rfl d <| WQ.p (.mv rfl) rfl <| WQ.gy rfl rfl rfl d <| WQ.p (.nck rfl) rfl <| WQ.gy rfl rfl rfl d <| WQ.p (.fa u180_ rfl s3_ dD rfl) rfl <| WQ.gy rfl rfl rfl d <| WQ.r (fun m => Rd.ld (g3_ _) rfl f.1 rfl) rfl <| WQ.gy rfl rfl rfl d <| WQ.p (.ixb u22_ s5_ rfl rfl (f.2.isp (by first | omega | exact nz_ _)) (t) oO oO) rfl <| WQ.gy rfl rfl rfl d <| WQ.r (fun m => Rd.ldc (g5_ _) rfl ((f.2.drewN m).cells (t) oO)) rfl <| WQ.gy rfl rfl rfl d <| WQ.c1 hB_ rfl rfl (fun m => (ib_q [10, 12, 13] _ _ m)) <| WQ.gy rfl rfl rfl d <| WQ.p (.bis (!endB (l[t]'oO)) (.lss rfl rfl) (by exact idx_end _)) rfl <| WQ.p (.pkT rfl d rfl) rfl <| WQ.nil (fun af V => ?_)
 exact ⟨leE (lk_b rfl (by rw [cmtB_eq]; (by_cases hq : t < l.length) <;> (first | (exfalso; omega) | (rw [getElem!_pos l t hq, decide_eq_true hq]; rfl) | (rw [decide_eq_false hq]; simp_all; done)))), V⟩
 have U := dF d
 refine WQ.gn rfl rfl rfl d <| WQ.gn rfl rfl rfl d <| WQ.gn rfl rfl rfl d <| WQ.gn rfl rfl rfl d <| WQ.gn rfl rfl rfl d <| WQ.gn rfl rfl rfl d <| WQ.gn rfl rfl rfl d <| WQ.gn rfl rfl rfl d <| WQ.gn rfl rfl rfl d <| WQ.gn rfl rfl rfl d <| WQ.gn rfl rfl rfl d <| WQ.p (.pkF rfl d rfl) rfl <| WQ.nil (fun ag X => ?_)
 exact ⟨leE (lk_b rfl (by rw [cmtB_eq]; (by_cases hq : t < l.length) <;> (first | (exfalso; omega) | (rw [getElem!_pos l t hq, decide_eq_true hq]; rfl) | (rw [decide_eq_false hq]; simp_all; done)))), X⟩
 have q := f.1.drew o
 have F := f.2.drew o
 have G := tt_ a4 (td_ o)
 refine W.cond rfl (fun a7 => ?_) (fun a7 => ?_)
 obtain ⟨K, H⟩ := cmtB_t aS
 rw [skipAt_t l t K, H, if_neg (by simp)] at a5
 refine W.k <| W.b <| W.reg <| WL.M rfl <| WL.O (.nck rfl) <| WL.O (.fa u180_ rfl s3_ dD rfl) <| WL.R (Rd.ld (g3_ _) rfl q rfl) <| WL.O (.iis (((t + 1 : Nat) : Int)) (.add rfl rfl (i64w oO)) oO) <| WL.O (.nck rfl) <| WL.O (.fa u180_ rfl s3_ dD rfl) <| WL.st s3_ rfl rfl rfl q oD (fun a8 n i aa => ?_)
 have n : Blk a8 r _ _ := n
 have i : Upd r _ _ := i
 have Y := BytesAt.upd F i hne
 have a0 := tt_ G (Touch.of_upd i)
 refine WL.e <| ?_
 exact ⟨t + 1, ⟨rfl, tT⟩, ⟨⟨n, Y⟩, a0, by omega, by omega, by omega, fun h => by omega⟩, by omega⟩
 obtain ⟨K, H⟩ := cmtB_f aS
 have ah : t ≠ s := fun e => by subst e; exact H oO (a6 rfl)
 refine W.exit ?_
 exact ⟨t, ⟨rfl, tT⟩, ⟨⟨q, F⟩, G, by omega, by omega⟩, by omega⟩
 have T := dF E
 refine W.ret (W.ret0 rfl  ?_)
 exact ⟨rfl, ⟨by rw [← hw, hs, if_neg (u8_ne aS), if_neg (bF aS)]; exact y, C⟩, D⟩
 have a1 := dF L
 refine W.exit <| W.norm (W.ret0 rfl ?_)
 exact ⟨rfl, ⟨by rw [show R = s by rw [← hw, skipAt_end false l s oO]; omega]; exact v, x⟩, J⟩
end
section
theorem plex_blank (c : UInt8) (w : World) :
  Calls Tryz.prog 57 #[.int .u8 (c.toNat : Int)] w fun e w' => e = .returned (.bool (blankB c)) ∧ w = w' := by
 refine W.e func57 rfl ntmps57 bL ?_
 refine W.sr <| WL.Z rfl <| W.sr <| WL.M rfl <| WL.c1 hB_ rfl rfl ((lib_ib [0, 9, 10, 12, 13, 32] c _)) (fun b a => ?_)
 obtain rfl := a
 refine WL.O (.bis (blankB c) (.geq rfl rfl) (by exact idx_blank c)) <| WL.Z rfl <| W.ret (W.r1 rfl rfl ?_)
 exact ⟨rfl, rfl⟩
theorem plex_regular (c : UInt8) (w : World) :
  Calls Tryz.prog 45 #[.int .u8 (c.toNat : Int)] w fun e w' => e = .returned (.bool (regB c)) ∧ w = w' := by
 refine W.e func45 rfl ntmps45 bL ?_
 refine W.sr <| WL.Z rfl <| W.sr <| WL.M rfl <| WL.c1 hB_ rfl rfl ((plex_blank c _)) (fun g b => ?_)
 obtain rfl := b
 refine WL.O (.not rfl) <| WL.M rfl <| WL.gd rfl rfl rfl (fun a => ?_) (fun a => ?_)
 have d := (nT a)
 refine WL.M rfl <| WL.gy rfl rfl rfl (by rw [(nT a)] <;> rfl) <| WL.c1 hB_ rfl rfl ((lib_ib [40, 41, 60, 62, 91, 93, 123, 125, 47, 37] c _)) (fun i f => ?_)
 obtain rfl := f
 refine WL.gy rfl rfl rfl (by rw [(nT a)] <;> rfl) <| WL.O (.bis (!delimB c) (.lss rfl rfl) (by exact idx_delim c)) <| WL.O (.pkT rfl (by rw [(nT a)] <;> rfl) rfl) <| WL.Z rfl <| W.ret (W.r1 rfl rfl ?_)
 exact ⟨ret_bool (by unfold regB; simp_all), rfl⟩
 have d := (nF a)
 refine WL.gn rfl rfl rfl (by rw [(nF a)] <;> rfl) <| WL.gn rfl rfl rfl (by rw [(nF a)] <;> rfl) <| WL.O (.pkF rfl (by rw [(nF a)] <;> rfl) rfl) <| WL.Z rfl <| W.ret (W.r1 rfl rfl ?_)
 exact ⟨ret_bool (by unfold regB; simp_all), rfl⟩
def insA (l : List UInt8) (a : Int) : Nat := if a < 0 ∨ (l.length : Int) < a then l.length else a.toNat
theorem insA_le (l : List UInt8) (a : Int) : insA l a ≤ l.length := by unfold insA; split <;> omega
theorem insA_nat (l : List UInt8) (a : Nat) (h : a ≤ l.length) : insA l a = a := by unfold insA; rw [if_neg oO]; omega
theorem plex_inside (p : Option Addr) (l : List UInt8) (c : Nat) (a : Int) (w : World) :
  Calls Tryz.prog 56 #[.slice p l.length c, .int .i64 a] w fun e w' => e = .returned (.int .i64 (insA l a : Int)) ∧ w = w' := by
 refine W.e func56 rfl ntmps56 bL ?_
 refine W.sr <| WL.Z rfl <| W.seq <| W.cutB 12 (decide (a < 0 ∨ (l.length : Int) < a)) ?_ ?_
 refine W.reg <| WL.M rfl <| WL.O (.lss rfl rfl) <| WL.M rfl <| WL.gd rfl rfl rfl (fun b => ?_) (fun b => ?_)
 have f := dF b
 refine WL.M rfl <| WL.Y b <| WL.M rfl <| WL.Y b <| WL.O (.lenS u22_ rfl) <| WL.Y b <| WL.O (.gtr rfl rfl) <| WL.O (.pkF rfl b rfl) <| WL.e <| ?_
 exact ⟨leE (lk_b rfl (by (apply Bool.eq_iff_iff.2; (try simp) <;> omega))), rfl⟩
 have f := dT b
 refine WL.N b <| WL.N b <| WL.N b <| WL.O (.pkT rfl b rfl) <| WL.e <| ?_
 exact ⟨leE (lk_b rfl (by (apply Bool.eq_iff_iff.2; (try simp) <;> omega))), rfl⟩
 refine W.cond rfl (fun d => ?_) (fun d => ?_)
 have g := dT d
 refine W.sr <| WL.M rfl <| WL.O (.lenS u22_ rfl) <| WL.Z rfl <| W.ret (W.r1 rfl rfl ?_)
 exact ⟨ret_int (by unfold insA; rw [if_pos aS]), rfl⟩
 have g := dF d
 refine W.k <| W.sr <| WL.M rfl <| WL.Z rfl <| W.ret (W.r1 rfl rfl ?_)
 exact ⟨ret_int (by unfold insA; rw [if_neg aS]; omega), rfl⟩
theorem plex_Skip (p : Option Addr) (l : List UInt8) (c : Nat) (a : Int) (w : World) (hb : BytesAt w p l) (hl : l.length ≤ 100000000) :
  Calls Tryz.prog 42 #[.slice p l.length c, .int .i64 a] w fun e w' => e = .returned (.int .i64 (skipAt false l (insA l a) : Int)) ∧ w = w' := by
 obtain ⟨R, hR⟩ : ∃ R, R = skipAt false l (insA l a) := ⟨_, rfl⟩
 have ha := insA_le l a
 rw [← hR]
 refine W.e func42 rfl ntmps42 bL ?_
 refine W.sr <| WL.Z rfl <| W.sr <| WL.M rfl <| WL.M rfl <| WL.c1 hB_ rfl rfl ((plex_inside p l c a _)) (fun o q => ?_)
 obtain rfl := q
 refine WL.Z rfl <| W.seq <| W.b <| W.loop (α := Nat) (fun t => [(0, .slice p l.length c), (1, .int .i64 (t : Int))]) (fun t w' => w = w' ∧ t ≤ l.length ∧ skipAt false l t = R) (fun t => l.length - t) (insA l a) ⟨rfl, rfl, tT⟩ (⟨rfl, ha, hR.symm⟩) (fun t o hR => ?_)
 obtain ⟨rfl, ht, hw⟩ := hR
 obtain ⟨s, rfl⟩ : ∃ s, s = t := ⟨t, rfl⟩
 refine W.seq <| W.sr <| WL.M rfl <| WL.M rfl <| WL.O (.lenS u22_ rfl) <| WL.O (.lss rfl rfl) <| WL.e <| W.cond rfl (fun m => ?_) (fun m => ?_)
 have u := dT m
 refine W.k <| W.b <| W.seq <| W.reg ?_
 have hs := skipAt_f l s oO
 have hs' : l[s]! = l[s]'oO := getElem!_pos l s oO
 refine WL.M rfl <| WL.M rfl <| WL.O (.ixb u22_ s5_ rfl rfl (hb.isp (by first | omega | exact nz_ _)) (s) (rfl) oO) <| WL.R (Rd.ldc (g5_ _) rfl (hb.cells (s) oO)) <| WL.Z rfl <| W.b <| W.sr <| WL.M rfl <| WL.c1 hB_ rfl rfl ((plex_blank _ _)) (fun K v => ?_)
 obtain rfl := v
 refine WL.Z rfl <| W.cond rfl (fun E => ?_) (fun E => ?_)
 refine W.reg <| WL.M rfl <| WL.O (.add rfl rfl (i64w oO)) <| WL.Z rfl ?_
 exact ⟨s + 1, ⟨rfl, lk_i rfl oO, tT⟩, ⟨rfl, by omega, by rw [← hw, hs, if_neg (by rintro e; simp_all [blankB]), if_pos (by simp_all)]⟩, by omega⟩
 refine W.sr <| WL.M rfl <| WL.O (.eql rfl rfl) <| WL.Z rfl <| W.cond rfl (fun n => ?_) (fun n => ?_)
 have x := dT n
 refine W.b <| W.loop (α := Nat) (fun t => [(0, .slice p l.length c), (1, .int .i64 (t : Int))]) (fun t w' => w = w' ∧ s ≤ t ∧ t ≤ l.length ∧ skipAt true l t = R ∧ (t = s → l[s]'oO = 37)) (fun t => l.length - t) (s) ⟨rfl, rfl, tT⟩ (⟨rfl, by omega, by omega, by rw [skipAt_t l s oO, if_neg (by rw [show l[s] = 37 from u8_eq aS]; decide), ← hw, hs, if_pos (u8_eq aS)], fun _ => u8_eq aS⟩) (fun t o hR => ?_)
 obtain ⟨rfl, G, H, y, A⟩ := hR
 refine W.seq <| W.cutB 50 (cmtB l t) ?_ ?_
 refine W.reg <| WL.M rfl <| WL.M rfl <| WL.O (.lenS u22_ rfl) <| WL.O (.lss rfl rfl) <| WL.M rfl <| WL.gd rfl rfl rfl (fun d => ?_) (fun d => ?_)
 have B := dT d
 refine WL.M rfl <| WL.Y d <| WL.M rfl <| WL.Y d <| WL.O (.ixb u22_ s5_ rfl rfl (hb.isp (by first | omega | exact nz_ _)) (t) (rfl) oO) <| WL.Y d <| WL.R (Rd.ldc (g5_ _) rfl (hb.cells (t) oO)) <| WL.Y d <| WL.O (.neq rfl rfl) <| WL.O (.pkT rfl d rfl) <| WL.M rfl <| WL.gd rfl rfl rfl (fun f => ?_) (fun f => ?_)
 have C := ndT f
 refine WL.M rfl <| WL.Y f <| WL.M rfl <| WL.Y f <| WL.O (.ixb u22_ s5_ rfl rfl (hb.isp (by first | omega | exact nz_ _)) (t) (rfl) oO) <| WL.Y f <| WL.R (Rd.ldc (g5_ _) rfl (hb.cells (t) oO)) <| WL.Y f <| WL.O (.neq rfl rfl) <| WL.O (.pkT rfl f rfl) <| WL.M rfl <| WL.gd rfl rfl rfl (fun g => ?_) (fun g => ?_)
 have D := ndT g
 refine WL.M rfl <| WL.Y g <| WL.M rfl <| WL.Y g <| WL.O (.ixb u22_ s5_ rfl rfl (hb.isp (by first | omega | exact nz_ _)) (t) (rfl) oO) <| WL.Y g <| WL.R (Rd.ldc (g5_ _) rfl (hb.cells (t) oO)) <| WL.Y g <| WL.O (.neq rfl rfl) <| WL.O (.pkT rfl g rfl) <| WL.e <| ?_
 exact ⟨leE (lk_b rfl (by (by_cases hq : t < l.length) <;> (unfold cmtB; first | (exfalso; omega) | (rw [getElem!_pos l t hq]; simp_all; done) | (rw [decide_eq_false hq]; simp_all; done)))), rfl⟩
 have D := ndF g
 refine WL.N g <| WL.N g <| WL.N g <| WL.N g <| WL.O (.pkF rfl g rfl) <| WL.e <| ?_
 exact ⟨leE (lk_b rfl (by (by_cases hq : t < l.length) <;> (unfold cmtB; first | (exfalso; omega) | (rw [getElem!_pos l t hq]; simp_all; done) | (rw [decide_eq_false hq]; simp_all; done)))), rfl⟩
 have C := ndF f
 refine WL.N f <| WL.N f <| WL.N f <| WL.N f <| WL.O (.pkF rfl f rfl) <| WL.M rfl <| WL.N rfl <| WL.N rfl <| WL.N rfl <| WL.N rfl <| WL.N rfl <| WL.O (.pkF rfl rfl rfl) <| WL.e <| ?_
 exact ⟨leE (lk_b rfl (by (by_cases hq : t < l.length) <;> (unfold cmtB; first | (exfalso; omega) | (rw [getElem!_pos l t hq]; simp_all; done) | (rw [decide_eq_false hq]; simp_all; done)))), rfl⟩
 have B := dF d
 refine WL.N d <| WL.N d <| WL.N d <| WL.N d <| WL.O (.pkF rfl d rfl) <| WL.M rfl <| WL.N rfl <| WL.N rfl <| WL.N rfl <| WL.N rfl <| WL.N rfl <| WL.O (.pkF rfl rfl rfl) <| WL.M rfl <| WL.N rfl <| WL.N rfl <| WL.N rfl <| WL.N rfl <| WL.N rfl <| WL.O (.pkF rfl rfl rfl) <| WL.e <| ?_
 exact ⟨leE (lk_b rfl (by (by_cases hq : t < l.length) <;> (unfold cmtB; first | (exfalso; omega) | (rw [getElem!_pos l t hq]; simp_all; done) | (rw [decide_eq_false hq]; simp_all; done)))), rfl⟩
 refine W.cond rfl (fun F => ?_) (fun F => ?_)
 obtain ⟨j, i⟩ := cmtB_t aS
 rw [skipAt_t l t j, i, if_neg (by simp)] at y
 refine W.k <| W.b <| W.reg <| WL.M rfl <| WL.O (.add rfl rfl (i64w oO)) <| WL.Z rfl ?_
 exact ⟨t + 1, ⟨rfl, lk_i rfl oO, tT⟩, ⟨rfl, by omega, by omega, by omega, fun h => by omega⟩, by omega⟩
 obtain ⟨j, i⟩ := cmtB_f aS
 have J : t ≠ s := fun e => by subst e; exact i oO (A rfl)
 refine W.exit ?_
 exact ⟨t, ⟨rfl, lk_i rfl oO, tT⟩, ⟨rfl, by omega, by omega⟩, by omega⟩
 have x := dF n
 refine W.sr <| WL.M rfl <| WL.Z rfl <| W.ret (W.r1 rfl rfl ?_)
 exact ⟨ret_int (by rw [← hw, hs, if_neg (u8_ne aS), if_neg (by simp_all)]), rfl⟩
 have u := dF m
 refine W.exit <| W.sr <| WL.M rfl <| WL.Z rfl <| W.ret (W.r1 rfl rfl ?_)
 exact ⟨ret_int (by rw [skipAt_end false l s oO] at hw; omega), rfl⟩
def wordL (l : List UInt8) (a : Nat) : List UInt8 := (l.drop a).take (wordAt l a - a)
theorem wordL_eq (l : List UInt8) (a : Nat) : wordL l a = (l.drop a).takeWhile regB := word_take l a
theorem plex_Word (p : Option Addr) (l : List UInt8) (c : Nat) (a : Int) (w : World) (hb : BytesAt w p l) (hc : l.length ≤ c) (hl : l.length ≤ 100000000) :
  Calls Tryz.prog 64 #[.slice p l.length c, .int .i64 a] w fun e w' => e = .returned (.tuple #[.string (bs (wordL l (insA l a))), .int .i64 (wordAt l (insA l a) : Int)]) ∧ w = w' := by
 obtain ⟨R, hR⟩ : ∃ R, R = wordAt l (insA l a) := ⟨_, rfl⟩
 have ha := insA_le l a
 have g := wordAt_le l (insA l a) ha
 unfold wordL
 rw [← hR] at g ⊢
 refine W.e func64 rfl ntmps64 bL ?_
 refine W.sr <| WL.A rfl <| WL.Z rfl <| W.sr <| WL.M rfl <| WL.M rfl <| WL.c1 hB_ rfl rfl ((plex_inside p l c a _)) (fun n i => ?_)
 obtain rfl := i
 refine WL.Z rfl <| W.sr <| WL.M rfl <| WL.Z rfl <| W.seq <| W.b <| W.loop (α := Nat) (fun t => [(0, .slice p l.length c), (1, .int .i64 (insA l a : Int)), (5, .int .i64 (t : Int))]) (fun t w' => w = w' ∧ t ≤ l.length ∧ wordAt l t = R) (fun t => l.length - t) (insA l a) ⟨rfl, rfl, rfl, tT⟩ (⟨rfl, ha, hR.symm⟩) (fun t n hR => ?_)
 obtain ⟨rfl, ht, hw⟩ := hR
 refine W.seq <| W.sr <| WL.M rfl <| WL.M rfl <| WL.O (.lenS u22_ rfl) <| WL.O (.lss rfl rfl) <| WL.M rfl <| WL.gd rfl rfl rfl (fun d => ?_) (fun d => ?_)
 have j := dT d
 have hs := takeWhile_drop regB l t oO
 refine WL.M rfl <| WL.Y d <| WL.M rfl <| WL.Y d <| WL.O (.ixb u22_ s5_ rfl rfl (hb.isp (by first | omega | exact nz_ _)) (t) (rfl) oO) <| WL.Y d <| WL.R (Rd.ldc (g5_ _) rfl (hb.cells (t) oO)) <| WL.Y d <| WL.c1 hB_ rfl rfl ((plex_regular _ _)) (fun q m => ?_)
 obtain rfl := m
 refine WL.O (.pkT rfl d rfl) <| WL.e <| W.cond rfl (fun o => ?_) (fun o => ?_)
 refine W.k <| W.b <| W.reg <| WL.M rfl <| WL.O (.add rfl rfl (i64w oO)) <| WL.Z rfl ?_
 exact ⟨t + 1, ⟨rfl, rfl, lk_i rfl oO, tT⟩, ⟨rfl, by omega, by unfold wordAt at hw ⊢; rw [hs, if_pos aS, List.length_cons] at hw; omega⟩, by omega⟩
 refine W.exit <| W.seq ?_
 have f : t = R := by
  by_cases hq : t < l.length; have hs := takeWhile_drop regB l t hq; unfold wordAt at hw; rw [hs, if_neg (by simp_all), List.length_nil] at hw; omega; unfold wordAt at hw; rw [List.drop_eq_nil_of_le oO] at hw; simp at hw; omega
 refine W.reg <| WL.M rfl <| WL.M rfl <| WL.M rfl <| WL.O (.slb u22_ s5_ rfl rfl rfl  (insA l a) (R) (rfl) oO oO oO) <| WL.R (Rd.b2sPart u22_ u5_ u9_ rfl rfl hb oO oO oO) <| WL.M rfl <| WL.A rfl <| WL.Z rfl <| W.ret (W.ret2 rfl rfl rfl ?_)
 exact ⟨ret_val (by subst f; rfl), rfl⟩
 have j := dF d
 refine WL.N d <| WL.N d <| WL.N d <| WL.N d <| WL.O (.pkF rfl d rfl) <| WL.e <| W.condF rfl rfl <| W.exit <| W.seq ?_
 have f : t = R := by
  by_cases hq : t < l.length; have hs := takeWhile_drop regB l t hq; unfold wordAt at hw; rw [hs, if_neg (by simp_all), List.length_nil] at hw; omega; unfold wordAt at hw; rw [List.drop_eq_nil_of_le oO] at hw; simp at hw; omega
 refine W.reg <| WL.M rfl <| WL.M rfl <| WL.M rfl <| WL.O (.slb u22_ s5_ rfl rfl rfl  (insA l a) (R) (rfl) oO oO oO) <| WL.R (Rd.b2sPart u22_ u5_ u9_ rfl rfl hb oO oO oO) <| WL.M rfl <| WL.A rfl <| WL.Z rfl <| W.ret (W.ret2 rfl rfl rfl ?_)
 exact ⟨ret_val (by subst f; rfl), rfl⟩
theorem lib_trim (l cs : List UInt8) (w : World) (hl : l.length ≤ 100000000) (hc : cs.length ≤ 1000) (ha : ∀ b ∈ cs, b.toNat < 128) :
  Calls Tryz.prog 96 #[.string (bs l), .string (bs cs)] w fun e w' => e = .returned (.string (bs (Lib.trimS l cs))) ∧ Below w.heap.size w w' := by
 refine (Any.strings_Trim_laid Tryz.lays160 kR (bs l) (bs cs) w (by rw [bs_size]; omega) (by rw [bs_size]; omega) ?_).mono fun e w' h => ⟨?_, h.2⟩
 ·
  intro j b hb
  have : (bs cs).data.toList = cs := by simp [bs]
  rw [this] at hb
  exact ha b (List.mem_of_getElem? hb)
 ·
  rw [h.1]
  have a : (bs l).data.toList = l := by simp [bs]
  have c : (bs cs).data.toList = cs := by simp [bs]
  rw [a, c]; rfl
theorem trim_dig (l : List UInt8) : (decide (Lib.trimS l [48, 49, 50, 51, 52, 53, 54, 55, 56, 57] = [])) = l.all isDig := by
 have : (fun x => ([48, 49, 50, 51, 52, 53, 54, 55, 56, 57] : List UInt8).contains x) = isDig := funext digs_contains
 rw [Bool.eq_iff_iff, decide_eq_true_eq, trimS_nil_iff, this]
def wholeOk (s : List UInt8) : Bool := !decide (s = []) && decide (s.length ≤ 10) && s.all isDig
def wholeV (s : List UInt8) (most : Int) : Int × Bool := if wholeOk s then ((natOf s : Int), decide ((natOf s : Int) ≤ most)) else (0, false)
theorem plex_whole (s : List UInt8) (most : Int) (w : World) (hl : s.length ≤ 100000000) :
  Calls Tryz.prog 93 #[.string (bs s), .int .i64 most] w fun e w' => e = .returned (.tuple #[.int .i64 (wholeV s most).1, .bool (wholeV s most).2]) ∧ Below w.heap.size w w' := by
 refine W.e func93 rfl ntmps93 bL ?_
 have g := br_ (w.heap.size) w
 refine W.sr <| WL.A rfl <| WL.Z rfl <| W.seq <| W.cut (α := Unit) (fun t => [(0, .string (bs s)), (1, .int .i64 most), (4, .int .i64 0), (5, .bool false), (20, .bool (!wholeOk s))]) (fun t w' => Below w.heap.size w w') ?_ (fun t G hR => ?_)
 refine W.reg <| WL.M rfl <| WL.O (.eqs rfl rfl) <| WL.M rfl <| WL.gd rfl rfl rfl (fun a => ?_) (fun a => ?_)
 have v := dF a
 refine WL.M rfl <| WL.Y a <| WL.O (.len u9_ rfl) <| WL.Y a <| WL.O (.gtr rfl rfl) <| WL.O (.pkF rfl a rfl) <| WL.M rfl <| WL.gd rfl rfl rfl (fun d => ?_) (fun d => ?_)
 have x := dF d
 refine WL.M rfl <| WL.Y d <| WL.c1 hB_ rfl rfl ((lib_trim s [48, 49, 50, 51, 52, 53, 54, 55, 56, 57] _ hl dD dD)) (fun V y => ?_)
 have B := btr g y
 refine WL.Y d <| WL.O (.bis (!s.all isDig) (.nes rfl rfl) (by rw [trim_dig])) <| WL.O (.pkF rfl d rfl) <| WL.e <| ?_
 exact ⟨(), ⟨rfl, rfl, rfl, rfl, lk_b rfl (by unfold wholeOk; first | (simp_all; done) | (simp_all; omega)), tT⟩, B⟩
 have x := dT d
 refine WL.N d <| WL.N d <| WL.O (.pkT rfl d rfl) <| WL.e <| ?_
 exact ⟨(), ⟨rfl, rfl, rfl, rfl, lk_b rfl (by unfold wholeOk; first | (simp_all; done) | (simp_all; omega)), tT⟩, g⟩
 have v := dT a
 refine WL.N a <| WL.N a <| WL.O (.pkT rfl a rfl) <| WL.M rfl <| WL.N rfl <| WL.N rfl <| WL.N rfl <| WL.O (.pkT rfl rfl rfl) <| WL.e <| ?_
 exact ⟨(), ⟨rfl, rfl, rfl, rfl, lk_b rfl (by unfold wholeOk; first | (simp_all; done) | (simp_all; omega)), tT⟩, g⟩
 have j := hR
 refine W.cond rfl (fun H => ?_) (fun H => ?_)
 have n : wholeOk s = false := by simp_all
 refine W.sr <| WL.A rfl <| WL.Z rfl <| W.ret (W.ret2 rfl rfl rfl ?_)
 exact ⟨ret_ib (by unfold wholeV; rw [n]; rfl) (by unfold wholeV; rw [n]; rfl), j⟩
 have l : wholeOk s = true := by simp_all
 have f := l
 unfold wholeOk at f
 simp only [Bool.and_eq_true, decide_eq_true_eq, Bool.not_eq_true', decide_eq_false_iff_not] at f
 have m := List.all_eq_true.1 f.2
 refine W.k <| W.sr <| WL.Z rfl <| W.seq <| W.sr <| WL.M rfl <| WL.s2b u9_ u22_ u5_ rfl rfl (fun J C cz o hz L q K => ?_)
 have D := uB j o q
 have F := bge o j.size
 refine WL.O (.lenS u22_ rfl) <| WL.M rfl <| WL.e <| W.b <| W.loop (α := Nat) (fun t => [(0, .string (bs s)), (1, .int .i64 most), (6, .int .i64 (natOf (s.take t) : Int)), (22, .slice (some ⟨J, 0, none⟩) s.length cz), (23, .int .i64 (s.length : Int)), (24, .int .i64 (t : Int))]) (fun t w' => C = w' ∧ t ≤ s.length) (fun t => s.length - t) (0) ⟨rfl, rfl, rfl, rfl, rfl, rfl, tT⟩ (⟨rfl, nl_ _⟩) (fun t G hR => ?_)
 obtain ⟨i, rfl⟩ : ∃ i, i = t := ⟨t, rfl⟩
 obtain ⟨rfl, hi⟩ := hR
 refine W.sr <| WL.O (.lss rfl rfl) <| WL.e <| W.seq <| W.cond rfl (fun u => ?_) (fun u => ?_)
 have E := dT u
 refine W.k <| W.seq <| W.b <| W.sr <| WL.O (.ixb u22_ s5_ rfl rfl (hz.isp (by first | omega | exact nz_ _)) (i) (rfl) oO) <| WL.R (Rd.ldc (g5_ _) rfl (hz.cells (i) oO)) <| WL.Z rfl ?_
 have P := natOf_take s i oO
 have Q := isDig_bounds (m _ (List.getElem_mem (show i < s.length by omega)))
 have T := natOf_lt (s.take i) (fun c hc => m c (List.mem_of_mem_take hc))
 have U : 10 ^ (s.take i).length ≤ 10 ^ 9 := Nat.pow_le_pow_right oO (by rw [List.length_take]; omega)
 refine W.reg <| WL.M rfl <| WL.O (.mul rfl rfl (i64w oO)) <| WL.M rfl <| WL.O (.sub rfl rfl (u8w oO)) <| WL.O (.cvt u5_ u3_ rfl (i64w oO)) <| WL.O (.iis ((natOf (s.take (i + 1)) : Int)) (.add rfl rfl (i64w oO)) oO) <| WL.Z rfl <| W.reg <| WL.O (.iis (((i + 1 : Nat) : Int)) (.add rfl rfl (i64w oO)) oO) <| WL.M rfl <| WL.e <| ?_
 exact ⟨i + 1, ⟨rfl, rfl, rfl, rfl, rfl, rfl, tT⟩, ⟨rfl, by ((try simp only) <;> omega)⟩, by ((try simp only) <;> omega)⟩
 have E := dF u
 refine W.exit <| W.seq ?_
 obtain rfl : i = s.length := by omega
 rw [List.take_length]
 refine W.reg <| WL.M rfl <| WL.M rfl <| WL.M rfl <| WL.O (.leq rfl rfl) <| WL.A rfl <| WL.Z rfl <| W.ret (W.ret2 rfl rfl rfl ?_)
 exact ⟨ret_ib (by unfold wholeV; rw [l]; rfl) (by unfold wholeV; rw [l]; rfl), D⟩
end
section
def parseP (l : List UInt8) : Int × Bool := if 64 < l.length then (0, false) else parseL l
theorem dec_Parse (l : List UInt8) (w : World) :
  Calls Tryz.prog 94 #[.string (bs l)] w fun e w' => e = .returned (.tuple #[.int .i64 (parseP l).1, .bool (parseP l).2]) ∧ Below w.heap.size w w' := by
 unfold parseP
 split
 ·
  exact (dec_Parse_long l w aS).mono fun e w' h => ⟨h.1, h.2 ▸ br_ _ _⟩
 ·
  exact dec_Parse_short l w oO
end
section
def pobj (k n : Int) (s : List UInt8) : List Value := [.int .i64 k, .int .i64 n, .string (bs s), .slice none 0 0, .slice none 0 0, .slice none 0 0]
def pmDig (c : UInt8) : Bool := isDig c || c == 43 || c == 45
theorem trim_pm (l : List UInt8) : (decide (Lib.trimS l [43, 45, 48, 49, 50, 51, 52, 53, 54, 55, 56, 57] = [])) = l.all pmDig := by
 have : (fun x => ([43, 45, 48, 49, 50, 51, 52, 53, 54, 55, 56, 57] : List UInt8).contains x) = pmDig := by
  funext x
  have key : ∀ n : Fin 256, ([43, 45, 48, 49, 50, 51, 52, 53, 54, 55, 56, 57] : List UInt8).contains (UInt8.ofNat n.1) = pmDig (UInt8.ofNat n.1) := by decide +kernel
  have := key ⟨x.toNat, UInt8.toNat_lt x⟩
  simpa using this
 rw [Bool.eq_iff_iff, decide_eq_true_eq, trimS_nil_iff, this]
theorem idx_dot (l : List UInt8) : decide (0 ≤ Lib.indexByte l 46) = l.contains 46 := by
 exact (Lib.contains_iff_indexByte l 46).symm
def numR (s : List UInt8) : Int × Int × Bool :=
 if s.contains 46 then (3, (parseP s).1, (parseP s).2)
 else if (tokenL s).ok && decide ((tokenL s).e = 0) && decide ((tokenL s).kind = 1) && s.all pmDig then (2, (tokenL s).n, true) else (0, 0, false)
theorem plex_number (s : List UInt8) (w : World) (hl : s.length ≤ 100000000) :
  Calls Tryz.prog 66 #[.string (bs s)] w fun e w' => e = .returned (.tuple #[.agg (pobj (numR s).1 (numR s).2.1 []).toArray, .bool (numR s).2.2]) ∧ Below w.heap.size w w' := by
 obtain ⟨T, hT⟩ : ∃ T, T = tokenL s := ⟨_, rfl⟩
 have d : ∀ w, Calls Tryz.prog 95 #[.string (bs s)] w fun e w' => e = .returned T.val ∧ Below w.heap.size w w' := fun w => by rw [hT]; exact dec_Token _ w
 obtain ⟨D, hD⟩ : ∃ D, D = s.contains 46 := ⟨_, rfl⟩
 have hN : numR s = if D then (3, (parseP s).1, (parseP s).2) else if T.ok && decide (T.e = 0) && decide (T.kind = 1) && s.all pmDig then (2, T.n, true) else (0, 0, false) := by rw [hT, hD]; rfl
 refine W.e func66 rfl ntmps66 bL ?_
 have a1 := br_ (w.heap.size) w
 refine W.sr <| WL.al z99_ rfl (fun b1 aE a2 q a5 aB => ?_)
 have a3 := uB a1 a2 a5
 have ar := bge a2 a1.size
 refine WL.Z rfl <| W.seq <| W.sr <| WL.M rfl <| WL.c1 hB_ rfl rfl ((lib_ib s 46 _)) (fun w3 ak => ?_)
 obtain rfl := ak
 refine WL.O (.bis (D) (.geq rfl rfl) (by rw [hD]; exact idx_dot s)) <| WL.e <| W.cond rfl (fun h4 => ?_) (fun h4 => ?_)
 refine W.sr <| WL.M rfl <| WL.c1 hB_ rfl rfl ((dec_Parse s _)) (fun w5 a4 => ?_)
 have am := q.bl a4
 have an := btr a3 a4
 refine WL.M rfl <| WL.O (.ext rfl rfl) <| WL.O (.ext rfl rfl) <| WL.A rfl <| WL.Z rfl <| W.sr <| WL.M rfl <| ?_
 refine WL.O (.buildL (ps := _) blt99 rfl rfl rfl pS) ?_
 refine WL.M rfl <| WL.stL rfl rfl am isz99 rfl rfl (fun w8 a6 a7 aC => ?_)
 have ao := ub_ an oO a7
 refine WL.Z rfl <| W.ret (W.retc2 rfl rfl (ldRow a6 u99_ rfl isz99) rfl ?_)
 exact ⟨ret_val (by rw [hN, if_pos aS]; rfl), ao⟩
 refine W.k <| W.sr <| WL.M rfl <| WL.c1 hB_ rfl rfl ((d _)) (fun aF t => ?_)
 have u := q.bl t
 have v := btr a3 t
 refine WL.M rfl <| WL.O (.ext rfl rfl) <| WL.O (.ext rfl rfl) <| WL.O (.ext rfl rfl) <| WL.al z147_ rfl (fun aG aD i G l au => ?_)
 have a8 := bgl i u.lt
 have a9 := u.un l a8
 have aa := uB v i l
 have ap := bge i v.size
 refine WL.stL rfl rfl G isz147 rfl rfl (fun aH m o av => ?_)
 have f := a9.up o
 have g := ub_ aa oO o
 refine WL.A rfl <| WL.Z rfl <| W.seq <| W.sr <| WL.M rfl <| WL.O (.not rfl) <| WL.M rfl <| WL.gd rfl rfl rfl (fun c => ?_) (fun c => ?_)
 have ab := (nF c)
 refine WL.M rfl <| WL.gy rfl rfl rfl (by rw [(nF c)] <;> rfl) <| WL.O (.neq rfl rfl) <| WL.O (.pkF rfl (by rw [(nF c)] <;> rfl) rfl) <| WL.M rfl <| WL.gd rfl rfl rfl (fun a => ?_) (fun a => ?_)
 have ac := ndF a
 refine WL.O (.fa u147_ rfl s3_ dD rfl) <| WL.Y a <| WL.R (Rd.ld (g3_ _) rfl m rfl) <| WL.Y a <| WL.O (.neq rfl rfl) <| WL.O (.pkF rfl a rfl) <| WL.M rfl <| WL.gd rfl rfl rfl (fun b => ?_) (fun b => ?_)
 have ad := ndF b
 refine WL.M rfl <| WL.Y b <| WL.c1 hB_ rfl rfl ((lib_trim s [43, 45, 48, 49, 50, 51, 52, 53, 54, 55, 56, 57] _ hl dD dD)) (fun aI j => ?_)
 have x := f.bl j
 have ae := m.bl j
 have y := btr g j
 refine WL.Y b <| WL.O (.bis (!s.all pmDig) (.nes rfl rfl) (by rw [trim_pm])) <| WL.O (.pkF rfl b rfl) <| WL.e <| W.cond rfl (fun aq => ?_) (fun aq => ?_)
 refine W.sr <| WL.O (.buildL (ps := _) blt99 rfl rfl rfl pZ) ?_
 refine WL.stL rfl rfl x isz99 rfl rfl (fun aJ H J aw => ?_)
 have af := ub_ y oO J
 refine WL.Z rfl <| W.ret (W.retc2 rfl rfl (ldRow H u99_ rfl isz99) rfl ?_)
 exact ⟨ret_val (by rw [hN, if_neg (bF aS), if_neg (by intro hx; simp only [Bool.and_eq_true, decide_eq_true_eq] at hx; obtain ⟨⟨⟨B, C⟩, E⟩, F⟩ := hx; clear hN hT d; simp_all)]; rfl), af⟩
 refine W.k <| W.sr <| WL.O (.fa u147_ rfl s3_ dD rfl) <| WL.R (Rd.ld (g3_ _) rfl ae rfl) <| ?_
 refine WL.O (.buildL (ps := _) blt99 rfl rfl rfl pS) ?_
 refine WL.stL rfl rfl x isz99 rfl rfl (fun aK K L ax => ?_)
 have ag := ub_ y oO L
 refine WL.Z rfl <| W.ret (W.retc2 rfl rfl (ldRow K u99_ rfl isz99) rfl ?_)
 exact ⟨ret_val (by rw [hN, if_neg (bF aS), if_pos (by simp only [Bool.and_eq_true, decide_eq_true_eq]; clear hN hT d; simp_all)]; rfl), ag⟩
 have ad := ndT b
 refine WL.N b <| WL.N b <| WL.O (.pkT rfl b rfl) <| WL.e <| W.condT rfl rfl ?_
 refine W.sr <| WL.O (.buildL (ps := _) blt99 rfl rfl rfl pZ) ?_
 refine WL.stL rfl rfl f isz99 rfl rfl (fun aL P Q ay => ?_)
 have ah := ub_ g oO Q
 refine WL.Z rfl <| W.ret (W.retc2 rfl rfl (ldRow P u99_ rfl isz99) rfl ?_)
 exact ⟨ret_val (by rw [hN, if_neg (bF aS), if_neg (by intro hx; simp only [Bool.and_eq_true, decide_eq_true_eq] at hx; obtain ⟨⟨⟨B, C⟩, E⟩, F⟩ := hx; clear hN hT d; simp_all)]; rfl), ah⟩
 have ac := ndT a
 refine WL.N a <| WL.N a <| WL.O (.pkT rfl a rfl) <| WL.M rfl <| WL.N rfl <| WL.N rfl <| WL.N rfl <| WL.O (.pkT rfl rfl rfl) <| WL.e <| W.condT rfl rfl ?_
 refine W.sr <| WL.O (.buildL (ps := _) blt99 rfl rfl rfl pZ) ?_
 refine WL.stL rfl rfl f isz99 rfl rfl (fun aM U V az => ?_)
 have ai := ub_ g oO V
 refine WL.Z rfl <| W.ret (W.retc2 rfl rfl (ldRow U u99_ rfl isz99) rfl ?_)
 exact ⟨ret_val (by rw [hN, if_neg (bF aS), if_neg (by intro hx; simp only [Bool.and_eq_true, decide_eq_true_eq] at hx; obtain ⟨⟨⟨B, C⟩, E⟩, F⟩ := hx; clear hN hT d; simp_all)]; rfl), ai⟩
 have ab := (nT c)
 refine WL.gn rfl rfl rfl (by rw [(nT c)] <;> rfl) <| WL.O (.pkT rfl (by rw [(nT c)] <;> rfl) rfl) <| WL.M rfl <| WL.N rfl <| WL.N rfl <| WL.N rfl <| WL.O (.pkT rfl rfl rfl) <| WL.M rfl <| WL.N rfl <| WL.N rfl <| WL.N rfl <| WL.O (.pkT rfl rfl rfl) <| WL.e <| W.condT rfl rfl ?_
 refine W.sr <| WL.O (.buildL (ps := _) blt99 rfl rfl rfl pZ) ?_
 refine WL.stL rfl rfl f isz99 rfl rfl (fun aN X a0 aA => ?_)
 have aj := ub_ g oO a0
 refine WL.Z rfl <| W.ret (W.retc2 rfl rfl (ldRow X u99_ rfl isz99) rfl ?_)
 exact ⟨ret_val (by rw [hN, if_neg (bF aS), if_neg (by intro hx; simp only [Bool.and_eq_true, decide_eq_true_eq] at hx; obtain ⟨⟨⟨B, C⟩, E⟩, F⟩ := hx; clear hN hT d; simp_all)]; rfl), aj⟩
def PRd (w : World) (r : Nat) (p : Option Addr) (l : List UInt8) (c t : Nat) (refs : Bool) : Prop := Blk w r #[.slice p l.length c, .int .i64 (t : Int), .bool refs] 112 ∧ BytesAt w p l
theorem skip_q (p : Option Addr) (l : List UInt8) (c a : Nat) (w : World) (hb : BytesAt w p l) (ha : a ≤ l.length) (hl : l.length ≤ 100000000) (d : Nat) (hd : d = skipAt false l a) (m : Nat) :
  Calls Tryz.prog 42 #[.slice p l.length c, .int .i64 (a : Int)] (w.drewN m) fun e w' => e = .returned (.int .i64 (d : Int)) ∧ ∃ k, w' = w.drewN k :=
 (plex_Skip p l c a (w.drewN m) (hb.drewN m) hl).mono fun e w' h => ⟨by rw [h.1, insA_nat l a ha, hd], m, h.2.symm⟩
theorem word_q (p : Option Addr) (l : List UInt8) (c a : Nat) (w : World) (hb : BytesAt w p l) (hc : l.length ≤ c) (ha : a ≤ l.length) (hl : l.length ≤ 100000000) (m : Nat) :
  Calls Tryz.prog 64 #[.slice p l.length c, .int .i64 (a : Int)] (w.drewN m) fun e w' => e = .returned (.tuple #[.string (bs (wordL l a)), .int .i64 (wordAt l a : Int)]) ∧ ∃ k, w' = w.drewN k :=
 (plex_Word p l c a (w.drewN m) (hb.drewN m) hc hl).mono fun e w' h => ⟨by rw [h.1, insA_nat l a ha], m, h.2.symm⟩
def refR (refs : Bool) (l : List UInt8) (s : List UInt8) (t : Nat) : Option (Int × Nat) :=
 if refs && (wholeV s 4096).2 && decide (1 ≤ (wholeV s 4096).1) then
  (if wordL l (skipAt false l t) = [48] then
   (if wordL l (skipAt false l (wordAt l (skipAt false l t))) = [82] then some ((wholeV s 4096).1, wordAt l (skipAt false l (wordAt l (skipAt false l t)))) else none)
  else none)
 else none
def refK (o : Option (Int × Nat)) : Int × Int := match o with | some (n, _) => (8, n) | none => (0, 0)
def refV (o : Option (Int × Nat)) : Value := .tuple #[.agg (pobj (refK o).1 (refK o).2 []).toArray, .bool o.isSome]
def refT (o : Option (Int × Nat)) (t : Nat) : Nat := match o with | some (_, b) => b | none => t
theorem plex_ref (r : Nat) (p : Option Addr) (l : List UInt8) (c t : Nat) (refs : Bool) (s : List UInt8) (w : World) (h : PRd w r p l c t refs) (hne : 0 < l.length → (pA p).block ≠ r) (hc : l.length ≤ c) (hl : l.length ≤ 100000000) (ht : t ≤ l.length) (hs : s.length ≤ 100000000) :
  Calls Tryz.prog 65 #[.pointer (some ⟨r, 0, none⟩), .string (bs s)] w fun e w' => e = .returned (refV (refR refs l s t)) ∧ PRd w' r p l c (refT (refR refs l s t) t) refs ∧ Touch w.heap.size r w w' := by
 have hr := h.1
 have hb := h.2
 obtain ⟨a, ha⟩ : ∃ a, a = skipAt false l t := ⟨_, rfl⟩
 obtain ⟨b, G⟩ : ∃ b, b = skipAt false l (wordAt l a) := ⟨_, rfl⟩
 have a4 : a ≤ l.length := by rw [ha]; exact skipAt_le _ _ _
 have a5 : b ≤ l.length := by rw [G]; exact skipAt_le _ _ _
 have ax := wordAt_le l a a4
 have aI := wordAt_le l b a5
 have hR : refR refs l s t = if refs && (wholeV s 4096).2 && decide (1 ≤ (wholeV s 4096).1) then (if wordL l a = [48] then (if wordL l b = [82] then some ((wholeV s 4096).1, wordAt l b) else none) else none) else none := by rw [G, ha]; rfl
 obtain ⟨N, hN⟩ : ∃ N, N = wholeV s 4096 := ⟨_, rfl⟩
 have hW : ∀ w, Calls Tryz.prog 93 #[.string (bs s), .int .i64 4096] w fun e w' => e = .returned (.tuple #[.int .i64 N.1, .bool N.2]) ∧ Below w.heap.size w w' := fun w => by rw [hN]; exact plex_whole s 4096 w hs
 rw [← hN] at hR
 generalize refR refs l s t = R at hR ⊢
 refine W.e func65 rfl ntmps65 bL ?_
 have a6 := Touch.refl (w.heap.size) r w
 refine W.sr <| WL.al z99_ rfl (fun b1 aJ H aa E aH => ?_)
 have ay := bgl H hr.lt
 have az := hr.un E ay
 have f := fun h0 => H ▸ hb.lt h0
 have a7 := bup hb E f
 have Y := bge H a6.size
 have a8 := tt_ a6 (tn_ E Y)
 refine WL.Z rfl <| W.seq ?_
 have aK : r < b1 := by have := hr.lt; omega
 refine W.reg <| WL.M rfl <| WL.c1 hB_ rfl rfl ((hW _)) (fun w7 F => ?_)
 have j := az.bl F
 have a9 := aa.bl F
 have n := bb_ a7 F (fun h0 => a7.lt h0)
 have J := tt_ a8 (tm_ (tb_ F) a8.size)
 refine WL.M rfl <| WL.O (.ext rfl rfl) <| WL.O (.ext rfl rfl) <| WL.A rfl <| WL.Z rfl <| W.seq <| W.cutB 28 (!(refs && N.2 && decide (1 ≤ N.1))) ?_ ?_
 refine W.reg <| WL.M rfl <| WL.O (.nck rfl) <| WL.O (.fa u112_ rfl s4_ dD rfl) <| WL.R (Rd.ld (isAgg4 _) rfl j rfl) <| WL.O (.not rfl) <| WL.M rfl <| WL.gd rfl rfl rfl (fun g => ?_) (fun g => ?_)
 have ab := (nF g)
 refine WL.M rfl <| WL.gy rfl rfl rfl (by rw [(nF g)] <;> rfl) <| WL.O (.not rfl) <| WL.O (.pkF rfl (by rw [(nF g)] <;> rfl) rfl) <| WL.M rfl <| WL.gd rfl rfl rfl (fun i => ?_) (fun i => ?_)
 have ac := (nF i)
 refine WL.M rfl <| WL.gy rfl rfl rfl (by rw [(nF i)] <;> rfl) <| WL.O (.lss rfl rfl) <| WL.O (.pkF rfl (by rw [(nF i)] <;> rfl) rfl) <| WL.e <| ?_
 exact ⟨leE (lk_b rfl (by cases refs <;> cases h2 : N.2 <;> by_cases h3 : 1 ≤ N.1 <;> simp_all <;> omega)), rfl⟩
 have ac := (nT i)
 refine WL.gn rfl rfl rfl (by rw [(nT i)] <;> rfl) <| WL.O (.pkT rfl (by rw [(nT i)] <;> rfl) rfl) <| WL.e <| ?_
 exact ⟨leE (lk_b rfl (by cases refs <;> cases h2 : N.2 <;> by_cases h3 : 1 ≤ N.1 <;> simp_all <;> omega)), rfl⟩
 have ab := (nT g)
 refine WL.gn rfl rfl rfl (by rw [(nT g)] <;> rfl) <| WL.O (.pkT rfl (by rw [(nT g)] <;> rfl) rfl) <| WL.M rfl <| WL.N rfl <| WL.N rfl <| WL.O (.pkT rfl rfl rfl) <| WL.e <| ?_
 exact ⟨leE (lk_b rfl (by cases refs <;> cases h2 : N.2 <;> by_cases h3 : 1 ≤ N.1 <;> simp_all <;> omega)), rfl⟩
 refine W.cond rfl (fun aA => ?_) (fun aA => ?_)
 refine W.sr <| WL.O (.buildL (ps := _) blt99 rfl rfl rfl pZ) ?_
 refine WL.stL rfl rfl a9 isz99 rfl rfl (fun aL a0 o aC => ?_)
 have ad := j.up o
 have ae := bup n o f
 have af := tt_ J (tn_ o oO)
 refine WL.Z rfl <| W.ret (W.retc2 rfl rfl (ldRow a0 u99_ rfl isz99) rfl ?_)
 exact ⟨ret_val (by rw [hR, if_neg (bF (nT aS))]; rfl), by rw [hR, if_neg (bF (nT aS))]; exact ⟨ad, ae⟩, af⟩
 refine W.k <| W.seq <| W.regQ mixed kR <| WQ.p (.mv rfl) rfl <| WQ.p (.nck rfl) rfl <| WQ.p (.fa u112_ rfl s22_ dD rfl) rfl <| WQ.r (fun m => Rd.ld (g22_ _) rfl j rfl) rfl <| WQ.p (.mv rfl) rfl <| WQ.p (.nck rfl) rfl <| WQ.p (.fa u112_ rfl s22_ dD rfl) rfl <| WQ.r (fun m => Rd.ld (g22_ _) rfl j rfl) rfl <| WQ.p (.mv rfl) rfl <| WQ.p (.nck rfl) rfl <| WQ.p (.fa u112_ rfl s3_ dD rfl) rfl <| WQ.r (fun m => Rd.ld (g3_ _) rfl j rfl) rfl <| WQ.c1 hB_ rfl rfl (fun m => (skip_q p l c t _ n ht hl a ha m)) <| WQ.c1 hB_ rfl rfl (fun m => (word_q p l c a _ n hc a4 hl m)) <| WQ.p (.mv rfl) rfl <| WQ.p (.ext rfl rfl) rfl <| WQ.p (.ext rfl rfl) rfl <| WQ.p (.as rfl) rfl <| WQ.p (.as rfl) rfl <| WQ.nil (fun aM q => ?_)
 have u := j.drew q
 have K := a9.drew q
 have v := n.drew q
 have L := tt_ J (td_ q)
 refine W.seq <| W.sr <| WL.M rfl <| WL.O (.nes rfl rfl) <| WL.e <| W.cond rfl (fun P => ?_) (fun P => ?_)
 have ag := ndT P
 refine W.sr <| WL.O (.buildL (ps := _) blt99 rfl rfl rfl pZ) ?_
 refine WL.stL rfl rfl K isz99 rfl rfl (fun aN a1 x aD => ?_)
 have ah := u.up x
 have ai := bup v x f
 have aj := tt_ L (tn_ x oO)
 refine WL.Z rfl <| W.ret (W.retc2 rfl rfl (ldRow a1 u99_ rfl isz99) rfl ?_)
 exact ⟨ret_val (by rw [hR, if_pos (nF aS), if_neg aS]; rfl), by rw [hR, if_pos (nF aS), if_neg aS]; exact ⟨ah, ai⟩, aj⟩
 have ag := ndF P
 refine W.k <| W.seq <| W.regQ mixed kR <| WQ.p (.mv rfl) rfl <| WQ.p (.nck rfl) rfl <| WQ.p (.fa u112_ rfl s22_ dD rfl) rfl <| WQ.r (fun m => Rd.ld (g22_ _) rfl u rfl) rfl <| WQ.p (.mv rfl) rfl <| WQ.p (.nck rfl) rfl <| WQ.p (.fa u112_ rfl s22_ dD rfl) rfl <| WQ.r (fun m => Rd.ld (g22_ _) rfl u rfl) rfl <| WQ.p (.mv rfl) rfl <| WQ.c1 hB_ rfl rfl (fun m => (skip_q p l c (wordAt l a) _ v ax.2 hl b G m)) <| WQ.c1 hB_ rfl rfl (fun m => (word_q p l c b _ v hc a5 hl m)) <| WQ.p (.mv rfl) rfl <| WQ.p (.ext rfl rfl) rfl <| WQ.p (.ext rfl rfl) rfl <| WQ.p (.as rfl) rfl <| WQ.p (.as rfl) rfl <| WQ.nil (fun aO y => ?_)
 have Q := u.drew y
 have T := K.drew y
 have U := v.drew y
 have V := tt_ L (td_ y)
 refine W.seq <| W.sr <| WL.M rfl <| WL.O (.nes rfl rfl) <| WL.e <| W.cond rfl (fun X => ?_) (fun X => ?_)
 have ak := ndT X
 refine W.sr <| WL.O (.buildL (ps := _) blt99 rfl rfl rfl pZ) ?_
 refine WL.stL rfl rfl T isz99 rfl rfl (fun aP a2 B aE => ?_)
 have am := Q.up B
 have an := bup U B f
 have ao := tt_ V (tn_ B oO)
 refine WL.Z rfl <| W.ret (W.retc2 rfl rfl (ldRow a2 u99_ rfl isz99) rfl ?_)
 exact ⟨ret_val (by rw [hR, if_pos (nF aS), if_pos aS, if_neg aS]; rfl), by rw [hR, if_pos (nF aS), if_pos aS, if_neg aS]; exact ⟨am, an⟩, ao⟩
 have ak := ndF X
 refine W.k <| W.sr <| WL.M rfl <| WL.O (.iis ((wordAt l b : Int)) (.mv rfl) (by rfl)) <| WL.O (.nck rfl) <| WL.O (.fa u112_ rfl s3_ dD rfl) <| WL.st s3_ rfl rfl rfl Q oD (fun aB C d aF => ?_)
 have C : Blk aB r _ _ := C
 have d : Upd r _ _ := d
 have ap := T.up d
 have aq := BytesAt.upd U d hne
 have ar := tt_ V (Touch.of_upd d)
 refine WL.e <| W.sr <| WL.M rfl <| ?_
 refine WL.O (.buildL (ps := _) blt99 rfl rfl rfl pS) ?_
 refine WL.stL rfl rfl ap isz99 rfl rfl (fun aQ a3 D aG => ?_)
 have au := C.up D
 have av := bup aq D f
 have aw := tt_ ar (tn_ D oO)
 refine WL.Z rfl <| W.ret (W.retc2 rfl rfl (ldRow a3 u99_ rfl isz99) rfl ?_)
 exact ⟨ret_val (by rw [hR, if_pos (nF aS), if_pos aS, if_pos aS]; rfl), by rw [hR, if_pos (nF aS), if_pos aS, if_pos aS]; exact ⟨au, av⟩, aw⟩
structure WR where
 kind : Int
 n : Int
 word : List UInt8
 ok : Bool
 np : Nat
def plexW (refs : Bool) (l : List UInt8) (t : Nat) : WR :=
 if wordL l t = [110, 117, 108, 108] then ⟨0, 0, wordL l t, true, wordAt l t⟩
 else if wordL l t = [116, 114, 117, 101] then ⟨1, 1, wordL l t, true, wordAt l t⟩
 else if wordL l t = [102, 97, 108, 115, 101] then ⟨1, 0, wordL l t, true, wordAt l t⟩
 else if (refR refs l (wordL l t) (wordAt l t)).isSome then ⟨(refK (refR refs l (wordL l t) (wordAt l t))).1, (refK (refR refs l (wordL l t) (wordAt l t))).2, wordL l t, true, refT (refR refs l (wordL l t) (wordAt l t)) (wordAt l t)⟩
 else if (numR (wordL l t)).2.2 then ⟨(numR (wordL l t)).1, (numR (wordL l t)).2.1, wordL l t, true, wordAt l t⟩
 else ⟨0, 0, wordL l t, false, wordAt l t⟩
def WR.val (x : WR) : Value := .tuple #[.agg (pobj x.kind x.n []).toArray, .string (bs x.word), .bool x.ok]
theorem wordL_len (l : List UInt8) (t : Nat) : (wordL l t).length ≤ l.length := by unfold wordL; rw [List.length_take, List.length_drop]; omega
theorem refT_none {o : Option (Int × Nat)} {t : Nat} (h : o.isSome = false) : refT o t = t := by cases o with | none => rfl | some x => cases h
theorem plex_word (r : Nat) (p : Option Addr) (l : List UInt8) (c t : Nat) (refs : Bool) (w : World) (h : PRd w r p l c t refs) (hne : 0 < l.length → (pA p).block ≠ r) (hc : l.length ≤ c) (hl : l.length ≤ 100000000) (ht : t ≤ l.length) :
  Calls Tryz.prog 47 #[.pointer (some ⟨r, 0, none⟩)] w fun e w' => e = .returned (plexW refs l t).val ∧ PRd w' r p l c (plexW refs l t).np refs ∧ Touch w.heap.size r w w' := by
 have hr := h.1
 have hb := h.2
 have hX : ∃ X, X = plexW refs l t := ⟨_, rfl⟩
 obtain ⟨X, hX⟩ := hX
 rw [← hX]
 unfold plexW at hX
 have bj := wordAt_le l t ht
 have bk := wordL_len l t
 have a0 : ∀ w1, BytesAt w1 p l → ∀ m, Calls Tryz.prog 64 #[.slice p l.length c, .int .i64 (t : Int)] (w1.drewN m) fun e w' => e = .returned (.tuple #[.string (bs (wordL l t)), .int .i64 (wordAt l t : Int)]) ∧ ∃ k, w' = w1.drewN k := fun w1 h1 m => word_q p l c t w1 h1 hc ht hl m
 generalize wordL l t = s at hX bk a0
 generalize wordAt l t = t1 at hX bj a0
 refine W.e func47 rfl ntmps47 bL ?_
 have aA := Touch.refl (w.heap.size) r w
 refine W.sr <| WL.al z99_ rfl (fun b1 bN a1 aC L bI => ?_)
 have bm := bgl a1 hr.lt
 have a2 := hr.un L bm
 have d := fun N => a1 ▸ hb.lt N
 have aB := bup hb L d
 have ao := bge a1 aA.size
 have bn := tt_ aA (tn_ L ao)
 refine WL.A rfl <| WL.Z rfl <| W.seq ?_
 have bO : r < b1 := by have := hr.lt; omega
 refine W.regQ mixed kR <| WQ.p (.mv rfl) rfl <| WQ.p (.nck rfl) rfl <| WQ.p (.fa u112_ rfl s22_ dD rfl) rfl <| WQ.r (fun m => Rd.ld (g22_ _) rfl a2 rfl) rfl <| WQ.p (.mv rfl) rfl <| WQ.p (.nck rfl) rfl <| WQ.p (.fa u112_ rfl s3_ dD rfl) rfl <| WQ.r (fun m => Rd.ld (g3_ _) rfl a2 rfl) rfl <| WQ.c1 hB_ rfl rfl (fun m => (a0 _ aB m)) <| WQ.p (.mv rfl) rfl <| WQ.p (.ext rfl rfl) rfl <| WQ.p (.ext rfl rfl) rfl <| WQ.p (.as rfl) rfl <| WQ.p (.as rfl) rfl <| WQ.nil (fun w7 T => ?_)
 have bo := a2.drew T
 have bp := aC.drew T
 have aD := aB.drew T
 have aE := tt_ bn (td_ T)
 refine W.sr <| WL.M rfl <| WL.M rfl <| WL.O (.nck rfl) <| WL.O (.fa u112_ rfl s3_ dD rfl) <| WL.st s3_ rfl rfl rfl bo oD (fun bq a f bu => ?_)
 have a : Blk bq r _ _ := a
 have f : Upd r _ _ := f
 have q := bp.up f
 have y := BytesAt.upd aD f hne
 have u := tt_ aE (Touch.of_upd f)
 refine WL.e <| W.seq <| W.sr <| WL.M rfl <| WL.e <| W.b <| W.sr <| WL.O (.eqs rfl rfl) <| WL.Z rfl <| W.cond rfl (fun a3 => ?_) (fun a3 => ?_)
 have aF := dT a3
 refine W.sr <| WL.O (.buildL (ps := _) blt99 rfl rfl rfl pZ) ?_
 refine WL.M rfl <| WL.stL rfl rfl q isz99 rfl rfl (fun bP ap B bv => ?_)
 have aG := a.up B
 have aH := bup y B d
 have aI := tt_ u (tn_ B oO)
 refine WL.A rfl <| WL.Z rfl <| W.ret (W.retc3 rfl rfl (ldRow ap u99_ rfl isz99) rfl rfl ?_)
 (rw [if_pos aS] at hX; subst hX; exact ⟨rfl, ⟨aG, aH⟩, aI⟩)
 have aF := dF a3
 refine W.sr <| WL.O (.eqs rfl rfl) <| WL.Z rfl <| W.cond rfl (fun a4 => ?_) (fun a4 => ?_)
 have aJ := dT a4
 refine W.sr <| WL.O (.buildL (ps := _) blt99 rfl rfl rfl pS) ?_
 refine WL.M rfl <| WL.stL rfl rfl q isz99 rfl rfl (fun bQ aq C bw => ?_)
 have aK := a.up C
 have aL := bup y C d
 have aM := tt_ u (tn_ C oO)
 refine WL.A rfl <| WL.Z rfl <| W.ret (W.retc3 rfl rfl (ldRow aq u99_ rfl isz99) rfl rfl ?_)
 (rw [if_neg aS, if_pos aS] at hX; subst hX; exact ⟨rfl, ⟨aK, aL⟩, aM⟩)
 have aJ := dF a4
 refine W.sr <| WL.O (.eqs rfl rfl) <| WL.Z rfl <| W.cond rfl (fun a5 => ?_) (fun a5 => ?_)
 have aN := dT a5
 refine W.sr <| WL.O (.buildL (ps := _) blt99 rfl rfl rfl pS) ?_
 refine WL.M rfl <| WL.stL rfl rfl q isz99 rfl rfl (fun bR ar D bx => ?_)
 have aO := a.up D
 have aP := bup y D d
 have aQ := tt_ u (tn_ D oO)
 refine WL.A rfl <| WL.Z rfl <| W.ret (W.retc3 rfl rfl (ldRow ar u99_ rfl isz99) rfl rfl ?_)
 (rw [if_neg aS, if_neg aS, if_pos aS] at hX; subst hX; exact ⟨rfl, ⟨aO, aP⟩, aQ⟩)
 have aN := dF a5
 refine W.k <| W.seq <| W.sr <| WL.M rfl <| WL.M rfl <| WL.c1 hB_ rfl rfl ((plex_ref r p l c t1 refs s _ ⟨a, y⟩ hne hc hl oO oO)) (fun bS E => ?_)
 have a6 := E.1.1
 have a7 := bo_ q E.2 q.lt oO
 have a8 := E.1.2
 have a9 := tt_ u (tm_ E.2 u.size)
 refine WL.M rfl <| WL.O (.ext rfl rfl) <| WL.O (.ext rfl rfl) <| WL.al z99_ rfl (fun bT bJ F au g bz => ?_)
 have aR := bgl F a6.lt
 have aT := a6.un g aR
 have aU := bgl F a7.lt
 have aV := a7.un g aU
 have U := fun N => F ▸ a8.lt N
 have aW := bup a8 g U
 have aa := bge F a9.size
 have aX := tt_ a9 (tn_ g aa)
 refine WL.stL rfl rfl au isz99 rfl rfl (fun bU V i bA => ?_)
 have ab := aT.up i
 have ac := aV.up i
 have P := bup aW i U
 have Q := tt_ aX (tn_ i oO)
 refine WL.Z rfl <| W.sr <| WL.M rfl <| WL.e <| W.cond rfl (fun bt => ?_) (fun bt => ?_)
 refine W.sr <| WL.R (Rd.ldA rfl V u99_ rfl isz99) <| WL.M rfl <| WL.stL rfl rfl ac isz99 rfl rfl (fun bV av G bB => ?_)
 have aY := ab.up G
 have aZ := bup P G d
 have a' := tt_ Q (tn_ G oO)
 refine WL.A rfl <| WL.Z rfl <| W.ret (W.retc3 rfl rfl (ldRow av u99_ rfl isz99) rfl rfl ?_)
 (rw [if_neg aS, if_neg aS, if_neg aS, if_pos aS] at hX; subst hX; exact ⟨rfl, ⟨aY, aZ⟩, a'⟩)
 refine W.k <| W.sr <| WL.M rfl <| WL.c1 hB_ rfl rfl ((plex_number s _ oO)) (fun bW v => ?_)
 have ad := ab.bl v
 have ae := ac.bl v
 have b0 := V.bl v
 have af := bb_ P v (fun N => P.lt N)
 have ag := tt_ Q (tm_ (tb_ v) Q.size)
 refine WL.M rfl <| WL.O (.ext rfl rfl) <| WL.O (.ext rfl rfl) <| WL.al z99_ rfl (fun bX bK x aw j bC => ?_)
 have b2 := bgl x ad.lt
 have b3 := ad.un j b2
 have b4 := bgl x ae.lt
 have b5 := ae.un j b4
 have bM := bgl x b0.lt
 have H := fun N => x ▸ af.lt N
 have b6 := bup af j H
 have ah := bge x ag.size
 have b7 := tt_ ag (tn_ j ah)
 refine WL.stL rfl rfl aw isz99 rfl rfl (fun bY Y n bD => ?_)
 have ai := b3.up n
 have aj := b5.up n
 have ak := bup b6 n H
 have am := tt_ b7 (tn_ n oO)
 refine WL.Z rfl <| W.seq <| W.sr <| WL.M rfl <| WL.O (.not rfl) <| WL.e <| W.cond rfl (fun an => ?_) (fun an => ?_)
 have b8 := (nT an)
 refine W.reg <| WL.O (.buildL (ps := _) blt99 rfl rfl rfl pZ) ?_
 refine WL.stL rfl rfl Y isz99 rfl rfl (fun bZ ax o bE => ?_)
 have b9 := ai.up o
 have ba := aj.up o
 have bb := bup ak o H
 have bc := tt_ am (tn_ o oO)
 refine WL.e <| W.sr <| WL.R (Rd.ldA rfl ax u99_ rfl isz99) <| WL.M rfl <| WL.M rfl <| WL.stL rfl rfl ba isz99 rfl rfl (fun b' ay J bG => ?_)
 have bd := b9.up J
 have be := bup bb J d
 have bf := tt_ bc (tn_ J oO)
 refine WL.A rfl <| WL.Z rfl <| W.ret (W.retc3 rfl rfl (ldRow ay u99_ rfl isz99) rfl rfl ?_)
 (rw [if_neg aS, if_neg aS, if_neg aS, if_neg (bF aS), if_neg (bF aS)] at hX; subst hX; exact ⟨ret_val (by rw [show (numR s).2.2 = false by assumption]; rfl), ⟨by rw [← refT_none (t := t1) (show (refR refs l s t1).isSome = false by assumption)]; exact bd, be⟩, bf⟩)
 have b8 := (nF an)
 refine W.k <| W.sr <| WL.R (Rd.ldA rfl Y u99_ rfl isz99) <| WL.M rfl <| WL.M rfl <| WL.stL rfl rfl aj isz99 rfl rfl (fun c0 az K bH => ?_)
 have bg := ai.up K
 have bh := bup ak K d
 have bi := tt_ am (tn_ K oO)
 refine WL.A rfl <| WL.Z rfl <| W.ret (W.retc3 rfl rfl (ldRow az u99_ rfl isz99) rfl rfl ?_)
 (rw [if_neg aS, if_neg aS, if_neg aS, if_neg (bF aS), if_pos aS] at hX; subst hX; exact ⟨ret_val (by rw [show (numR s).2.2 = true by assumption]; rfl), ⟨by rw [← refT_none (t := t1) (show (refR refs l s t1).isSome = false by assumption)]; exact bg, bh⟩, bi⟩)
end
section
section
variable {P : Program} {n : Sh} {fn : Func} {R : Ending → World → Prop} {f : Fr} {w : World}
def Holds (f : Fr) (tmps : Array Value) : Prop := ∀ i u, look f i = some u → tmps.getD i undef = u
def PostD (P : Program) (fn : Func) (R : Ending → World → Prop) (D : List Deferred) : Exit → Fr → World → Prop
 | .normal, f, w | .ret, f, w => ∀ tmps, Holds f tmps → Leaves P fn tmps R D .returning w
 | .panic chain, f, w => ∀ tmps, Holds f tmps → Leaves P fn tmps R D (.panicking chain) w
 | .outgrown, _, w => R .outgrown w
 | _, _, _ => False
def WD (P : Program) (n : Sh) (fn : Func) (R : Ending → World → Prop) (c : Code) (f : Fr) (w : World) : Prop := ∀ a, Rep n f a → c.wp P (bodyPostD P fn R) a w
theorem postD_of {e : Exit} {a : Act} {w : World} (h : lift n (PostD P fn R n.D) e a w) : bodyPostD P fn R e a w := by
 obtain ⟨f, hr, hQ⟩ := h
 cases e with
 | normal => have := hQ a.tmps hr.2.2; rw [← hr.1] at this; exact this
 | ret => have := hQ a.tmps hr.2.2; rw [← hr.1] at this; exact this
 | panic ch => have := hQ a.tmps hr.2.2; rw [← hr.1] at this; exact this
 | outgrown => exact hQ
 | exit i => exact hQ.elim
 | goto l => exact hQ.elim
theorem WD.of {c : Code} (h : W P n c (PostD P fn R n.D) f w) : WD P n fn R c f w := by
 unfold W at h
 exact fun a ha => wp_mono (h a ha) fun _ _ _ => postD_of
theorem WD.seq {x y : Code} (h : W P n x (nx (fun f w => WD P n fn R y f w) (PostD P fn R n.D)) f w) : WD P n fn R (.seq x y) f w := by
 unfold W at h
 intro a ha
 refine wp_seq (wp_mono (h a ha) ?_)
 rintro e a' w' ⟨f', hr, hQ⟩
 cases e with
 | normal => exact hQ a' hr
 | exit i => exact postD_of (P := P) (fn := fn) (R := R) (n := n) (w := w') (e := .exit i) ⟨f', hr, hQ⟩
 | goto l => exact postD_of (P := P) (fn := fn) (R := R) (n := n) (w := w') (e := .goto l) ⟨f', hr, hQ⟩
 | ret => exact postD_of (P := P) (fn := fn) (R := R) (n := n) (w := w') (e := .ret) ⟨f', hr, hQ⟩
 | panic ch => exact postD_of (P := P) (fn := fn) (R := R) (n := n) (w := w') (e := .panic ch) ⟨f', hr, hQ⟩
 | outgrown => exact postD_of (P := P) (fn := fn) (R := R) (n := n) (w := w') (e := .outgrown) ⟨f', hr, hQ⟩
theorem WD.defer {y : Code} {id d ty ty2 : Nat} {pos pos2 : String} {aft aft2 : Array Edge} {F : FuncId} {caps : List Operand} {vs : List Value} (hcap : evs f caps = some vs) (hd : Nat.blt d n.n = true)
  (h : WD P ⟨n.n, ⟨.fn (.func F) vs.toArray, #[]⟩ :: n.D⟩ fn R y ((d, .func (.func F) #[] vs.toArray) :: f) w) :
  WD P n fn R (.seq (.region id [⟨some d, .makeFunc (.func F) #[] caps.toArray, ty, pos, aft, none⟩, ⟨none, .defer ⟨.value (.tmp d), #[], #[]⟩, ty2, pos2, aft2, none⟩].toArray false) y) f w := by
 intro a ha
 refine wp_seq (wp_region_lit ?_)
 have c : (Instr.makeFunc (.func F) #[] (vs.toArray)).run P w = .ok (.func (.func F) #[] vs.toArray) w := rfl
 have e : caps.toArray.map a.eval = vs.toArray := by rw [List.map_toArray, evs_map ha.agr _ _ hcap]
 have b := ha.put hd (.func (.func F) #[] vs.toArray)
 have g : (a.put (some d) (.func (.func F) #[] vs.toArray)).eval (.tmp d) = .func (.func F) #[] vs.toArray := b.agr _ _ (by simp [evo, look, Nat.beq_refl])
 unfold wpList
 rw [if_pos (by simp [Region.wanted])]
 refine Or.inl ?_
 unfold Oper.wp execOp
 simp only [e, Sem.run_bind, c, Result.andThen_ok, Sem.run_pure, List.map_toArray, List.map_nil]
 rw [Oper.upon_value]
 unfold wpList
 rw [if_pos (by simp [Region.wanted])]
 refine Or.inl ?_
 unfold Oper.wp execOp
 simp only [resolve, Deferred.ofValue, g, Sem.run_bind, Sem.run_pure, Result.andThen_ok, Array.append_empty, List.map_toArray, List.map_nil]
 rw [Oper.upon_defer]
 exact wpList_nil (h _ ⟨by show _ :: _ = _ :: _; rw [b.1], b.2.1, b.2.2⟩)
theorem W.enterD {F : FuncId} {c : Code} {args : Array Value} (hf : P.funcs[F]? = some fn) (hb : fn.body = some c)
  {k : Nat} (hn : fn.ntmps = k) (hl : args.size ≤ k) (h : WD P ⟨k, []⟩ fn R c (number 0 args.toList) w) : Calls P F args w R := by
 refine calls_of_wp_defers hf hb (h _ ⟨rfl, by simp [hn]; omega, ?_⟩)
 intro i v hv
 obtain ⟨j, e, hj⟩ := number_look _ _ _ _ hv
 obtain rfl : i = j := by omega
 have a : i < args.size := by
  rcases Nat.lt_or_ge i args.size with h | h
  ·
   exact h
  ·
   rw [List.getElem?_eq_none (by simpa using h)] at hj; cases hj
 have hj' : args[i]? = some v := by rw [← Array.getElem?_toList]; exact hj
 simp only [Array.getD_eq_getD_getElem?]
 rw [Array.getElem?_append_left a, hj']; rfl
theorem run_callFunc_body {F : FuncId} {g : Func} (h1 : P.funcs[F]? = some g) (h2 : g.body ≠ none) (h3 : g.name ≠ "runtime.NumGoroutine") (args : Array Value) (w : World) : (callFunc F args).run P w = .ok (.enter F args) w := by
 cases hb : g.body with
 | none => exact ab_ hb h2
 | some c => simp [callFunc, h1, h3, hb]
theorem PostD.ret0 {v : Value} (hv : ResOk P fn f w v) (h : R (.returned v) w) : PostD P fn R [] .ret f w := fun tmps ht => ⟨v, hv tmps ht, h⟩
theorem PostD.ret {F : FuncId} {vs : List Value} (hb : HasBody P F) (S : World → Prop)
  (hc : CallsD P F vs.toArray .returning w fun e u' w' => u' = .returning ∧ (∃ v, e = .returned v) ∧ S w')
  (hr : ∀ w', S w' → ∃ v, ResOk P fn f w' v ∧ R (.returned v) w') : PostD P fn R [⟨.fn (.func F) vs.toArray, #[]⟩] .ret f w := by
 intro tmps ht
 obtain ⟨g, a, b, c⟩ := hb
 refine leaves_cons (f := F) (args := vs.toArray) (by simp) ?_ (hc.mono ?_)
 ·
  simp only [invoke, Array.empty_append]
  exact run_callFunc_body a b c _ _
 ·
  rintro e u' w' ⟨rfl, ⟨v, rfl⟩, hS⟩
  obtain ⟨v, hv, hR⟩ := hr w' hS
  exact ⟨v, hv tmps ht, hR⟩
theorem PostD.caught {F : FuncId} {vs : List Value} {v0 : Value} (hb : HasBody P F) (S : World → Prop)
  (hc : CallsD P F vs.toArray (.panicking [{ v := v0, recovered := false }]) w fun e u' w' => u' = .panicking [{ v := v0, recovered := true }] ∧ (∃ v, e = .returned v) ∧ S w')
  (hr : ∀ w', S w' → ∃ v, ResOk P fn f w' v ∧ R (.returned v) w') : PostD P fn R [⟨.fn (.func F) vs.toArray, #[]⟩] (.panic [{ v := v0, recovered := false }]) f w := by
 intro tmps ht
 obtain ⟨g, a, b, c⟩ := hb
 refine leaves_cons (f := F) (args := vs.toArray) (by simp) ?_ (hc.mono ?_)
 ·
  simp only [invoke, Array.empty_append]
  exact run_callFunc_body a b c _ _
 ·
  rintro e u' w' ⟨rfl, ⟨v, rfl⟩, hS⟩
  obtain ⟨v, hv, hR⟩ := hr w' hS
  exact ⟨v, hv tmps ht, hR⟩
def recM : FrameMode → Value × FrameMode
 | .panicking ({ v, recovered := false, goexit := false } :: older) => (v, .panicking ({ v, recovered := true } :: older))
 | m => (.nilIface, m)
theorem recoverD_recM (c₀ : Frame) (cs : List Frame) : recoverD (c₀ :: cs) = some ((recM c₀.mode).1, { c₀ with mode := (recM c₀.mode).2 } :: cs) ∨ recoverD (c₀ :: cs) = none ∧ recM c₀.mode = (.nilIface, c₀.mode) := by
 unfold recoverD recM
 simp only
 split
 ·
  next h => rw [h]; exact Or.inl rfl
 ·
  next h =>
  refine Or.inr ⟨rfl, ?_⟩
  split
  ·
   next h2 => exact ab_ h2 (h _ _)
  ·
   rfl
theorem wpS_region_rec {id d ty : Nat} {pos : String} {aft : Array Edge} {ats : Array TypeId} {l : List Oper} {Q : Exit → Act → List Frame → World → Prop} {a : Act} {c₀ : Frame} {cs : List Frame} {Q0 : Exit → Act → World → Prop}
  (h : wpList P (⟨some d, .call ⟨.builtin .recover, #[], ats⟩, ty, pos, aft, none⟩ :: l).toArray Q0 l (a.put (some d) (recM c₀.mode).1) w)
  (hmono : ∀ e a w, Q0 e a w → Q e a ({ c₀ with mode := (recM c₀.mode).2 } :: cs) w) :
  (Code.region id (⟨some d, .call ⟨.builtin .recover, #[], ats⟩, ty, pos, aft, none⟩ :: l).toArray false).wpS P Q a (c₀ :: cs) w := by
 intro b k hb s
 generalize ho : (⟨some d, .call ⟨.builtin .recover, #[], ats⟩, ty, pos, aft, none⟩ : Oper) = o at h ⊢
 have h' : wpOps P (o :: l).toArray Q0 (List.range' 1 l.length) (a.put (some d) (recM c₀.mode).1) w := by
  rw [wpOps_eq_wpList l 1 (fun j => by simp [Nat.add_comm 1 j])]; exact h
 obtain ⟨e, a', w', hq, n⟩ := wp_ops _ _ _ h' b k ({ c₀ with mode := (recM c₀.mode).2 } :: cs)
 refine ⟨e, a', _, w', hmono _ _ _ hq, .of_steps (.head step_region (.one (step_lone_go ?_))) n⟩
 have g : List.range (o :: l).toArray.size = 0 :: List.range' 1 l.length := by
  rw [List.range_eq_range']; simp [List.range'_succ]
 rw [g]
 have hg := stepG_op (P := P) (b := b) (k := k) (cs := c₀ :: cs) (w := w) (a := a) (ops := (o :: l).toArray) (i := 0) (rest := List.range' 1 l.length) (o := o) (by simp) (by subst ho; simp [Region.wanted])
 have q : ∀ v, (b.at a (.inRegion (o :: l).toArray (0 :: List.range' 1 l.length) :: k)).finish v = b.at (a.put (some d) v) (.inRegion (o :: l).toArray (List.range' 1 l.length) :: k) := by
  intro v; rw [Frame.finish_at]; subst ho; rfl
 have hk : (b.at a (.inRegion (o :: l).toArray (0 :: List.range' 1 l.length) :: k)).kind = .deferred := hb
 have c := tryRecover_deferred hk (c₀ :: cs)
 have m : (execOp a.eval o).run P w = .ok .recover w := by
  subst ho; simp [execOp, resolve, invoke, builtin]
 rw [hg, ← q]
 rcases recoverD_recM c₀ cs with f | ⟨f, hm⟩
 ·
  rw [f] at c
  simp only [Frame.at] at c ⊢
  simp [stepG.apply, m, c]
 ·
  rw [f] at c
  rw [hm]
  simp only [Frame.at] at c ⊢
  simp [stepG.apply, m, c]
theorem CallsD.rec {F : FuncId} {id d ty k : Nat} {pos : String} {aft : Array Edge} {ats : Array TypeId} {l : List Oper} {y : Code} {args : Array Value} {u : FrameMode} {R : Ending → World → Prop} (hf : P.funcs[F]? = some fn)
  (hb : fn.body = some (.seq (.region id (⟨some d, .call ⟨.builtin .recover, #[], ats⟩, ty, pos, aft, none⟩ :: l).toArray false) y)) (hn : fn.ntmps = k) (hl : args.size ≤ k) (hd : Nat.blt d k = true)
  (h : WL P ⟨k, []⟩ (⟨some d, .call ⟨.builtin .recover, #[], ats⟩, ty, pos, aft, none⟩ :: l).toArray (nx (fun f w => W P ⟨k, []⟩ y (Post P fn R) f w) (Post P fn R)) l ((d, (recM u).1) :: number 0 args.toList) w) :
  CallsD P F args u w fun e u' w' => u' = (recM u).2 ∧ R e w' := by
 refine callsD_of_wpS hf hb fun c₀ cs hu => wpS_seq ?_
 have c : Rep ⟨k, []⟩ (number 0 args.toList) { tmps := args ++ Array.replicate (fn.ntmps - args.size) undef, defers := [] } := by
  refine ⟨rfl, by simp [hn]; omega, fun i v hv => ?_⟩
  obtain ⟨j, e, hj⟩ := number_look _ _ _ _ hv
  obtain rfl : i = j := by omega
  have n : i < args.size := by
   rcases Nat.lt_or_ge i args.size with h | h
   ·
    exact h
   ·
    rw [List.getElem?_eq_none (by simpa using h)] at hj; cases hj
  have hj' : args[i]? = some v := by rw [← Array.getElem?_toList]; exact hj
  simp only [Array.getD_eq_getD_getElem?]
  rw [Array.getElem?_append_left n, hj']; rfl
 subst hu
 have b : ∀ e a w, lift ⟨k, []⟩ (Post P fn R) e a w → bodyPostS P fn c₀ cs (fun e u' w' => u' = (recM c₀.mode).2 ∧ R e w') e a ({ c₀ with mode := (recM c₀.mode).2 } :: cs) w := by
  rintro e a w ⟨f, hr, hQ⟩
  unfold Post at hQ
  cases e with
  | normal => obtain ⟨v, g, m⟩ := hQ; exact ⟨hr.1, _, rfl, v, g _ hr.2.2, rfl, m⟩
  | ret => obtain ⟨v, g, m⟩ := hQ; exact ⟨hr.1, _, rfl, v, g _ hr.2.2, rfl, m⟩
  | panic ch => exact ⟨hr.1, _, rfl, rfl, hQ⟩
  | outgrown => exact ⟨_, rfl, hQ⟩
  | exit i => exact hQ.elim
  | goto l => exact hQ.elim
 unfold WL at h
 have := h _ (c.put hd (recM c₀.mode).1)
 refine wpS_region_rec this ?_
 rintro e a w ⟨f, hr, hQ⟩
 cases e with
 | normal =>
  have hQ' : W P ⟨k, []⟩ y (Post P fn R) f w := hQ
  unfold W at hQ'
  exact wpS_of_wp (wp_mono (hQ' a hr) fun e a w hh => b e a w hh)
 | _ => exact b _ _ _ ⟨f, hr, hQ⟩
def noPn (Q : Exit → Fr → World → Prop) : Exit → Fr → World → Prop
 | .panic _, _, _ => False
 | e, f, w => Q e f w
theorem W.noPn {c : Code} {Q : Exit → Fr → World → Prop} (h : W P n c (noPn Q) f w) : W P n c Q f w := h.mono fun e f w h => by
 cases e with
 | panic ch => exact h.elim
 | normal => exact h
 | ret => exact h
 | exit i => exact h
 | goto l => exact h
 | outgrown => exact h
theorem Pure.neNil {x : Operand} {tx ty u : TypeId} {v : Value} (ht : P.underlying tx = some (.interface (P.methodsAt tx))) (hx : evo f x = some (.iface u v)) : Pure P (.binOp .neq tx x (.const .nilIface) ty) f (.bool true) := fun ρ hρ d ty' pos aft g w => by
 have h4 : ρ (.const .nilIface) = .nilIface := hρ _ _ rfl
 simp [execOp, hρ _ _ hx, h4, eqGuard, run_neq_held_nil w tx u v ht]
theorem Pure.neNil0 {x : Operand} {tx ty : TypeId} (ht : P.underlying tx = some (.interface (P.methodsAt tx))) (hx : evo f x = some .nilIface) : Pure P (.binOp .neq tx x (.const .nilIface) ty) f (.bool false) := fun ρ hρ d ty' pos aft g w => by
 have h4 : ρ (.const .nilIface) = .nilIface := hρ _ _ rfl
 simp [execOp, hρ _ _ hx, h4, eqGuard_nil_constR, run_neq_nil_nil w tx ht]
theorem Pure.tas {x : Operand} {tx t : TypeId} {v : Value} {k : IntKind} (hu : P.underlying t = some (.int k)) (hx : evo f x = some (.iface t v)) : Pure P (.typeAssert x tx t true) f (.tuple #[v, .bool true]) := fun ρ hρ d ty' pos aft g w => by
 simp [execOp, hρ _ _ hx, Instr.typeAssert, run_underlying hu]
theorem ldCell {t tb : TypeId} {b o : Nat} {cs : Array Value} {v : Value} {w : World} (hb : Blk w b cs tb) (ha : (isAgg t).run P w = .ok false w) (hv : cs[o]? = some v) : (loadVar t ⟨b, o, none⟩).run P w = .ok v w := by
 have hc := (hb.cell o).trans hv
 simp [loadVar, ha, hc]
theorem ResOk.cells3 {a b c : Tmp} {ta tb tc : TypeId} {pa pb pc : Addr} {x y z : Value} (hr : fn.results = #[.cell a ta, .cell b tb, .cell c tc]) (ha : look f a = some (.pointer (some pa))) (hb : look f b = some (.pointer (some pb))) (hc : look f c = some (.pointer (some pc)))
  (hx : (loadVar ta pa).run P w = .ok x w) (hy : (loadVar tb pb).run P w = .ok y w) (hz : (loadVar tc pc).run P w = .ok z w) : ResOk P fn f w (.tuple #[x, y, z]) := fun tmps hh => by
 have e1 := hh _ _ ha; have e2 := hh _ _ hb; have e3 := hh _ _ hc
 simp only [Array.getD_eq_getD_getElem?] at e1 e2 e3
 simp [results, hr, e1, e2, e3, asAddr, hx, hy, hz]
end
end
section
def EndsV {α : Type} (E : TypeId) (res : Except Int α) (S : α → Value → World → Prop) (S' : World → Prop) (e : Ending) (w : World) : Prop :=
 match res with
 | .ok a => ∃ v, e = .returned v ∧ S a v w
 | .error k => e = .panicked [{ v := .iface E (.int .i64 k), recovered := false }] ∧ S' w
theorem EndsV.ok {α : Type} {E : TypeId} {res : Except Int α} {S : α → Value → World → Prop} {S' : World → Prop} {e : Ending} {w : World} (a : α) (v : Value) (h : res = .ok a) (he : e = .returned v) (hs : S a v w) : EndsV E res S S' e w := by
 unfold EndsV; rw [h]; exact ⟨v, he, hs⟩
abbrev eo_ := @EndsV.ok
theorem EndsV.err {α : Type} {E : TypeId} {res : Except Int α} {S : α → Value → World → Prop} {S' : World → Prop} {w : World} (k : Int) (h : res = .error k) (hs : S' w) : EndsV E res S S' (.panicked [{ v := .iface E (.int .i64 k), recovered := false }]) w := by
 unfold EndsV; rw [h]; exact ⟨rfl, hs⟩
abbrev ee_ := @EndsV.err
section
variable {P : Program} {n : Sh} {f : Fr}
theorem WL.cx {ops : Array Oper} {Q : Exit → Fr → World → Prop} {w : World} {rest : List Oper} {d ty : Nat} {pos : String} {aft : Array Edge} {F : FuncId} {xs : List Operand} {ats : Array TypeId} {vs : List Value} {α : Type}
  {E : TypeId} {res : Except Int α} {S : α → Value → World → Prop} {S' : World → Prop} (hb : HasBody P F) (hx : evs f xs = some vs) (hd : Nat.blt d n.n = true)
  (hc : Calls P F vs.toArray w (EndsV E res S S')) (herr : ∀ k w', res = .error k → S' w' → Q (.panic [{ v := .iface E (.int .i64 k), recovered := false }]) f w')
  (hok : ∀ a v w', res = .ok a → S a v w' → WL P n ops Q rest ((d, v) :: f) w') : WL P n ops Q (⟨some d, .call ⟨.value (.func F), xs.toArray, ats⟩, ty, pos, aft, none⟩ :: rest) f w := by
 cases hres : res with
 | ok a => exact WL.call (V := fun v : Value => v) hb hx hd (hc.mono fun e w' h => by rw [hres] at h; exact h) fun v w' h => hok a v w' hres h
 | error k => exact WL.cp hb hx (hc.mono fun e w' h => by rw [hres] at h; exact h) fun w' h => herr k w' hres h
end
theorem OwnM.touch' {α : Type} {L : Lay α} {e : TypeId} {B r : Nat} {w w1 : World} {v : Value} {l : List α} (h : OwnM L e B w v l) (hT : Touch w.heap.size r w w1) (hr : r < B) : OwnM L e B w1 v l :=
 h.same fun g hg => hT.block g (h.lt g hg).2 (by have := (h.lt g hg).1; omega)
section
variable {P : Program} {f : Fr}
theorem Pure.eqNil {x : Operand} {tx ty u : TypeId} {v : Value} (ht : P.underlying tx = some (.interface (P.methodsAt tx))) (hx : evo f x = some (.iface u v)) : Pure P (.binOp .eql tx x (.const .nilIface) ty) f (.bool false) := fun ρ hρ d ty' pos aft g w => by
 have h4 : ρ (.const .nilIface) = .nilIface := hρ _ _ rfl
 simp [execOp, hρ _ _ hx, h4, eqGuard, run_eql_held_nil w tx u v ht]
theorem Pure.eqNil0 {x : Operand} {tx ty : TypeId} (ht : P.underlying tx = some (.interface (P.methodsAt tx))) (hx : evo f x = some .nilIface) : Pure P (.binOp .eql tx x (.const .nilIface) ty) f (.bool true) := fun ρ hρ d ty' pos aft g w => by
 have h4 : ρ (.const .nilIface) = .nilIface := hρ _ _ rfl
 simp [execOp, hρ _ _ hx, h4, eqGuard_nil_constR, run_eql_nil_nil w tx ht]
end
end
section
theorem plex_fail (k : Int) (w : World) : Calls Tryz.prog 60 #[.int .i64 k] w fun e w' => e = .panicked [{ v := .iface 30 (.int .i64 k), recovered := false }] ∧ w = w' := by
 refine W.e func60 rfl ntmps60 bL ?_
 refine W.reg <| WL.M rfl <| WL.O (.mkI u30_ rfl) <| WL.panic rfl (pn_is ?_)
 exact ⟨rfl, rfl⟩
theorem guard_nil (b : Nat) (w : World) : Calls Tryz.prog 44 #[.nilIface, .pointer (some ⟨b, 0, none⟩)] w fun e w' => e = .returned (.tuple #[]) ∧ w = w' := by
 refine W.e func44 rfl ntmps44 bL ?_
 refine W.seq <| W.sr <| WL.M rfl <| WL.O (.eqNil0 kR rfl) <| WL.e <| W.condT rfl rfl <| W.ret (W.ret0 rfl  ?_)
 exact ⟨rfl, rfl⟩
theorem guard_err (b B : Nat) (j k : Int) (w : World) (h : Blk w b #[.int .i64 j] 30) (hB : B ≤ b) : Calls Tryz.prog 44 #[.iface 30 (.int .i64 k), .pointer (some ⟨b, 0, none⟩)] w fun e w' => e = .returned (.tuple #[]) ∧ Blk w' b #[.int .i64 k] 30 ∧ Upd b w w' := by
 refine W.e func44 rfl ntmps44 bL ?_
 refine W.seq <| W.sr <| WL.M rfl <| WL.O (.eqNil kR rfl) <| WL.e <| W.condF rfl rfl <| W.k <| W.sr <| WL.M rfl <| WL.O (.tas u30_ rfl) <| WL.M rfl <| WL.O (.ext rfl rfl) <| WL.O (.ext rfl rfl) <| WL.A rfl <| WL.Z rfl <| W.seq <| W.sr <| WL.M rfl <| WL.O (.not rfl) <| WL.e <| W.condF rfl rfl <| W.k <| W.reg <| WL.M rfl <| WL.M rfl <| WL.O (.nck rfl) <| WL.st s30_ rfl rfl rfl h oD (fun d a c f => ?_)
 have a : Blk d b _ _ := a
 have c : Upd b _ _ := c
 refine WL.e <| W.norm (W.ret0 rfl ?_)
 exact ⟨rfl, a, by assumption⟩
end
section
open Go.RowKit Go.WideShapes Go.ChangeShapes
theorem fold_set : ∀ (vs : List Value) (s o : Nat) (pre mid post : List Value), pre.length = o + s → mid.length = vs.length →
  (vs.zipIdx s).foldl (fun (cs : Array Value) (x : Value × Nat) => cs.setIfInBounds (o + x.2) x.1) (pre ++ mid ++ post).toArray = (pre ++ vs ++ post).toArray
 | [], s, o, pre, mid, post, h1, h2 => by
  obtain rfl : mid = [] := List.length_eq_zero_iff.1 (by simpa using h2)
  rfl
 | v :: r, s, o, pre, [], post, h1, h2 => by simp at h2
 | v :: r, s, o, pre, m0 :: mr, post, h1, h2 => by
  have ih := fold_set r (s + 1) o (pre ++ [v]) mr post (by simp; omega) (by simpa using h2)
  rw [List.zipIdx_cons, List.foldl_cons]
  have e : (pre ++ m0 :: mr ++ post).toArray.setIfInBounds (o + s) v = (pre ++ [v] ++ mr ++ post).toArray := by
   rw [← h1]
   simp
  rw [e, ih]
  simp
theorem fill_flat {α : Type} (L : Lay α) : ∀ (xs : List α) (i : Nat) (pre post : List Value), pre.length = i * L.m → post.length = xs.length * L.m →
  Instr.fill (fun i => some (i * L.m, L.m)) (pre ++ post).toArray ((List.range' i xs.length).zip (xs.map fun x => Value.agg (L.V x).toArray)) = some (pre ++ L.flat xs).toArray
 | [], i, pre, post, h1, h2 => by
  obtain rfl : post = [] := List.length_eq_zero_iff.1 (by simpa using h2)
  rfl
 | x :: r, i, pre, post, h1, h2 => by
  have hlx := L.len x
  have h2' : post.length = r.length * L.m + L.m := by rw [h2, List.length_cons, Nat.succ_mul]
  have ih := fill_flat L r (i + 1) (pre ++ L.V x) (post.drop L.m) (by rw [List.length_append, h1, hlx, Nat.succ_mul]) (by rw [List.length_drop]; omega)
  have hf := fold_set (L.V x) 0 (i * L.m) pre (post.take L.m) (post.drop L.m) oO (by rw [List.length_take, hlx]; omega)
  rw [List.append_assoc pre, List.take_append_drop] at hf
  have hc : (Value.agg (L.V x).toArray).cells = (L.V x).toArray := rfl
  rw [List.length_cons, List.range'_succ, List.map_cons, List.zip_cons_cons]
  conv => lhs; unfold Instr.fill
  simp only [hc]
  rw [if_neg (by simp [hlx]; omega)]
  refine Eq.trans (congrArg (fun c => Instr.fill (fun i => some (i * L.m, L.m)) c ((List.range' (i + 1) r.length).zip (r.map fun x => Value.agg (L.V x).toArray))) ?_) (ih.trans (by simp [Lay.flat]))
  rw [← hf]
  simp
section
variable {P : Program} {n : Sh} {f : Fr} {α : Type} {L : Lay α}
theorem WL.bslM {ops : Array Oper} {Q : Exit → Fr → World → Prop} {w : World} {rest : List Oper} {d ty : Nat} {pos : String} {aft : Array Edge} {t e : TypeId} {len : Nat} {ps : List (Nat × Operand)} {vs : List Value} {z : Value} (xs : List α)
  (hu : P.underlying t = some (.slice e)) (hs : ∀ w, (sizeOf e).run P w = .ok L.m w) (hz : ∀ w, (zeroValue e).run P w = .ok z w) (_hzs : z.cells.size = L.m) (hl0 : Nat.blt 0 len = true) (hl1 : Nat.ble (len * L.m) 1000 = true)
  (hx : evs f (ps.map (·.2)) = some vs) (hi : ps.map (·.1) = List.range' 0 len) (hv : vs = xs.map fun x => Value.agg (L.V x).toArray) (hl : len = xs.length) (hd : Nat.blt d n.n = true)
  (k : ∀ b w1, b = w.heap.size → OwnM L e b w1 (.slice (some ⟨b, 0, none⟩) len len) xs → Upd b w w1 → w1.heap.size = b + 1 → WL P n ops Q rest ((d, .slice (some ⟨b, 0, none⟩) len len) :: f) w1) :
  WL P n ops Q (⟨some d, .buildSlice t len ps.toArray, ty, pos, aft, none⟩ :: rest) f w := by
 have q : 0 < len := by simpa [Nat.blt_eq] using hl0
 have s : len * L.m ≤ 1000 := by simpa using hl1
 have o : len ≤ len * L.m := Nat.le_mul_of_pos_right _ L.pos
 refine WL.run hd (w' := w.alloc (.cells (L.flat xs).toArray e)) (v := .slice (some ⟨w.heap.size, 0, none⟩) len len) (fun ρ hρ => ?_) (k _ _ rfl (.inr ⟨w.heap.size, len, _, by rw [← hl], nr_ _, Blk.alloc _ _ _, by rw [← hl]; exact nr_ _, by unfold maxLen; omega, by rw [List.size_toArray, L.flat_len, ← hl]; exact nr_ _, by show (L.flat xs).take _ = _; rw [List.take_of_length_le (by rw [L.flat_len]; exact nr_ _)]⟩) (Upd.alloc _ _) (by simp))
 have g := evs_map hρ _ _ hx
 have c : (ps.toArray.map fun (i, x) => (i, ρ x)).toList = (ps.map (·.1)).zip vs := by
  rw [← g]; simp only [List.map_map, Array.toList_map]
  clear hx hi hv g
  induction ps with
  | nil => rfl
  | cons p r ih => simpa using ih
 have a := fill_flat L xs 0 [] ((Array.range (len * L.m)).map (fun x => z.cells[x % z.cells.size]!)).toList (by simp) (by simp [hl])
 simp only [List.nil_append, Array.toArray_toList] at a
 rw [hi, hl, hv] at c
 rw [← hl] at c a
 have j : ¬ len * L.m = 0 := by omega
 have l : ¬ 16777216 < len * L.m := by omega
 unfold execOp
 simp only [Instr.buildSlice, Sem.run_bind, run_underlying hu, hs, Result.andThen_ok, c]
 rw [if_neg oO, if_neg j]
 simp only [Sem.run_bind, hz, Sem.run_pure, Result.andThen_ok, a]
 simp [newRow]
theorem WL.stM {ops : Array Oper} {Q : Exit → Fr → World → Prop} {w : World} {rest : List Oper} {ty : Nat} {pos : String} {aft : Array Edge} {t e : TypeId} {x y : Operand} {B nn c : Nat} {p : Option Addr} {l : List α} {vs : List Value} (o : α) (k : Nat)
  (hown : OwnM L e B w (.slice p nn c) l) (hk : k < l.length) (hi : (P.info? t).map (·.size) = some L.m) (hx : evo f x = some (.pointer (some ((pA p).add (k * L.m))))) (hy : evo f y = some (.agg vs.toArray)) (hv : vs = L.V o)
  (kk : ∀ w1 g, p = some ⟨g, 0, none⟩ → Upd g w w1 → OwnM L e B w1 (.slice p nn c) (l.set k o) → WL P n ops Q rest f w1) :
  WL P n ops Q (⟨none, .store t x y, ty, pos, aft, none⟩ :: rest) f w := by
 subst hv
 rcases hown with ⟨q, v⟩ | ⟨g, cap, cur, q, hB, hg, j, s, A, d⟩
 ·
  rw [v] at hk; simp only [List.length_nil] at hk; omega
 ·
  cases q; have a := L.len o; have C := L.flat_len l; have D : k * L.m + L.m ≤ l.length * L.m := by rw [← Nat.succ_mul]; exact Nat.mul_le_mul_right _ hk
  have E : l.length * L.m ≤ c * L.m := Nat.mul_le_mul_right _ j; have u := run_storeCells_at P g (k * L.m) e (L.V o) 0 cur w hg (by rw [a]; omega) (L.one o); rw [show pA (some (⟨g, 0, none⟩ : Addr)) = ⟨g, 0, none⟩ from rfl, add_lit, Nat.zero_add] at hx; have b : (l.set k o).length = l.length := List.length_set; refine WL.act (w' := w.setRow g (cur.toList.take (k * L.m + 0) ++ L.V o ++ cur.toList.drop (k * L.m + 0 + (L.V o).length)).toArray) (fun ρ hρ => ?_)
   (kk _ g rfl (Upd.setRow _ _ _) (.inr ⟨g, c, _, by rw [b], hB, setRow_heap w g cur _ e _ hg, by rw [b]; exact j, s, ?_, ?_⟩))
  ·
   cases hq : P.info? t with
   | none => simp [hq] at hi
   | some i =>
    have hs : i.size = L.m := by simpa [hq] using hi
    unfold execOp; simp [hρ _ _ hx, hρ _ _ hy, Instr.storeAt, Instr.sureAddr, storeVar, Sem.run_bind, sizeOf, typeInfo, hq, hs, Value.cells, a, u]
  ·
   simp only [List.size_toArray, List.length_append, List.length_take, List.length_drop, Array.length_toList, a]
   omega
  ·
   rw [b, ← list_set_flat L l k hk o, Nat.add_zero, a, ← d]; rw [List.take_take, Nat.min_eq_left oO]; rw [List.append_assoc, List.append_assoc, List.take_append, List.take_append]; simp only [List.length_take, Array.length_toList, a]; rw [Nat.min_eq_left oO, List.take_take, Nat.min_eq_right oO, List.take_of_length_le (l := L.V o) oO, List.drop_take]
   congr 3
   omega
end
theorem OwnM.rowp {α : Type} {L : Lay α} {e : TypeId} {B n c : Nat} {w : World} {p : Option Addr} {l : List α} (h : OwnM L e B w (.slice p n c) l) : RowM L w p l := by
 obtain ⟨p', c', hv, hr, -⟩ := h.row
 cases hv
 exact hr
end
section
inductive PV where
 | mk (kind n : Int) (text : List UInt8) (keys : List (List UInt8)) (list : List PV)
structure PC where
 kind : Int
 n : Int
 text : List UInt8
 kp : Option Addr
 kl : Nat
 kc : Nat
 lp : Option Addr
 ll : Nat
 lc : Nat
def pcV (x : PC) : List Value := [.int .i64 x.kind, .int .i64 x.n, .string (bs x.text), .slice x.kp x.kl x.kc, .slice x.lp x.ll x.lc, .slice none 0 0]
def pcL : Lay PC := ⟨6, pcV, by decide, fun _ => rfl, fun x u hu => List.all_eq_true.1 (show (pcV x).all Value.oneCell' = true from rfl) u hu⟩
def pc0 (k n : Int) (s : List UInt8) : PC := ⟨k, n, s, none, 0, 0, none, 0, 0⟩
def pv0 (k n : Int) (s : List UInt8) : PV := .mk k n s [] []
def strL : Lay (List UInt8) := ⟨1, fun s => [.string (bs s)], by decide, fun _ => rfl, fun x u hu => by simp only [List.mem_singleton] at hu; subst hu; rfl⟩
theorem RowM.lit {α : Type} {V : Lay α} {w : World} {b : Nat} {cs : Array Value} {t : TypeId} {l : List α} (h : Blk w b cs t) (e : cs = (V.flat l).toArray) : RowM V w (some ⟨b, 0, none⟩) l := by
 subst e
 refine RowM.of_flat (fun _ => rfl) fun k v hk => ?_
 show w.cell? ((⟨b, 0, none⟩ : Addr).add k) = _
 rw [add_lit, Nat.zero_add, h.cell k]
 simpa using hk
theorem RowM.strs {w : World} {p : Option Addr} {l : List (List UInt8)} (h : RowM strL w p l) : RowAt strV w p l := ⟨h.isp, fun j hj => by
 have := h.cells j hj 0 dD
 rw [show j * strL.m + 0 = j by show j * 1 + 0 = j; omega] at this
 exact this⟩
def StrsAt (S : Nat → Prop) (w : World) (v : Value) (l : List (List UInt8)) : Prop := OwnM strL 9 0 w v l ∧ ∀ g, v.ownBlock = some g → S g
def RowIn (S : Nat → Prop) (w : World) (v : Value) (cs : List PC) : Prop := OwnM pcL 99 0 w v cs ∧ ∀ g, v.ownBlock = some g → S g
inductive PRep (w : World) (S : Nat → Prop) : PC → PV → Prop
 | mk (x : PC) (keys : List (List UInt8)) (list : List PV) (cs : List PC) (hk : StrsAt S w (.slice x.kp x.kl x.kc) keys) (hr : RowIn S w (.slice x.lp x.ll x.lc) cs) (hlen : cs.length = list.length)
   (hsub : ∀ i (h : i < cs.length) (h2 : i < list.length), PRep w S cs[i] list[i]) : PRep w S x (.mk x.kind x.n x.text keys list)
theorem PRep.zero (w : World) (S : Nat → Prop) (k n : Int) (s : List UInt8) : PRep w S (pc0 k n s) (pv0 k n s) :=
 PRep.mk (pc0 k n s) [] [] [] ⟨OwnM.nil _ _ _ _, fun g h => by cases h⟩ ⟨OwnM.nil _ _ _ _, fun g h => by cases h⟩ rfl fun i h => by simp at h
theorem StrsAt.same {S : Nat → Prop} {w w1 : World} {v : Value} {l : List (List UInt8)} (h : StrsAt S w v l) (hb : ∀ k, S k → k < w.heap.size → w1.heap[k]? = w.heap[k]?) : StrsAt S w1 v l :=
 ⟨h.1.same fun g hg => hb g (h.2 g hg) (h.1.lt g hg).2, h.2⟩
theorem RowIn.same {S : Nat → Prop} {w w1 : World} {v : Value} {l : List PC} (h : RowIn S w v l) (hb : ∀ k, S k → k < w.heap.size → w1.heap[k]? = w.heap[k]?) : RowIn S w1 v l :=
 ⟨h.1.same fun g hg => hb g (h.2 g hg) (h.1.lt g hg).2, h.2⟩
theorem PRep.same {S : Nat → Prop} {w w1 : World} {x : PC} {o : PV} (h : PRep w S x o) (hb : ∀ k, S k → k < w.heap.size → w1.heap[k]? = w.heap[k]?) : PRep w1 S x o := by
 induction h with
 | mk x keys list cs hk hr hlen _ ih => exact .mk x keys list cs (hk.same hb) (hr.same hb) hlen ih
theorem PRep.mono {S T : Nat → Prop} {w : World} {x : PC} {o : PV} (h : PRep w S x o) (hST : ∀ k, S k → k < w.heap.size → T k) : PRep w T x o := by
 induction h with
 | mk x keys list cs hk hr hlen _ ih => exact .mk x keys list cs ⟨hk.1, fun g hg => hST g (hk.2 g hg) (hk.1.lt g hg).2⟩ ⟨hr.1, fun g hg => hST g (hr.2 g hg) (hr.1.lt g hg).2⟩ hlen ih
end
section
def pvK : PV → Int | .mk k _ _ _ _ => k
def pvN : PV → Int | .mk _ n _ _ _ => n
def pvT : PV → List UInt8 | .mk _ _ t _ _ => t
def pvLs : PV → List PV | .mk _ _ _ _ l => l
def fromV (n : Int) : Int × Int := if n < -32768 ∨ 32767 < n then (0, 11) else (n * 65536, 0)
def numP (o : PV) : Int × Bool := if pvK o = 3 then (pvN o, fitsB (pvN o)) else if pvK o = 2 then ((fromV (pvN o)).1, decide ((fromV (pvN o)).2 = 0)) else (0, false)
structure PathP where
 list : List SegV
 start : PointV
 now : PointV
def pt0 : PointV := ⟨0, 0⟩
def sg1 (k : Int) (a : PointV) : SegV := ⟨k, a, pt0, pt0⟩
def lastG (l : List SegV) : Int := match l.getLast? with | none => 0 | some s => s.fKind
def pAdd (m : Int) (p : PathP) (q : PointV) (l : List SegV) : PathP × Int := if m < (p.list.length : Int) + (l.length : Int) then (p, 9) else (⟨p.list ++ l, p.start, q⟩, 0)
def pMove (m : Int) (p : PathP) (a : PointV) : PathP × Int :=
 if fitsP a = false then (p, 11) else if lastG p.list = 1 then (⟨p.list.dropLast ++ [sg1 1 a], a, a⟩, 0)
 else (if (pAdd m p a [sg1 1 a]).2 = 0 then { (pAdd m p a [sg1 1 a]).1 with start := a } else (pAdd m p a [sg1 1 a]).1, (pAdd m p a [sg1 1 a]).2)
def pDraw (m : Int) (p : PathP) (s : SegV) (q : PointV) : PathP × Int :=
 if lastG p.list = 0 then (p, 10) else if lastG p.list = 4 then pAdd m p q [sg1 1 p.now, s] else pAdd m p q [s]
def pLine (m : Int) (p : PathP) (a : PointV) : PathP × Int := if fitsP a = false then (p, 11) else pDraw m p (sg1 2 a) a
def pCurve (m : Int) (p : PathP) (a b c : PointV) : PathP × Int := if (fitsP a && fitsP b && fitsP c) = false then (p, 11) else pDraw m p ⟨3, a, b, c⟩ c
def pClose (m : Int) (p : PathP) : PathP × Int := if lastG p.list = 0 ∨ lastG p.list = 4 then (p, 0) else pAdd m p p.start [sg1 4 pt0]
def path0 : PathP := ⟨[], pt0, pt0⟩
structure VwS where
 ctm : M6
 fill : ColorV
 stroke : ColorV
 pen : PenV
 clips : List ClipV
 font : Int
 size : Int
structure Vw where
 s : VwS
 saved : List VwS
 path : PathP
 clip : Int
 inText : Bool
 lost : Bool
 text : M6
 line : M6
 items : List ItemV
def mustV (e : Int) : Except Int Unit := if e = 0 then .ok () else .error 22
def wantV (b : Bool) : Except Int Unit := if b = true then .ok () else .error 22
def roomV (b : Bool) : Except Int Unit := if b = true then .ok () else .error 25
def numsV (args : List PV) (n : Nat) : Except Int (List Int) := if args.length = n ∧ args.all (fun o => (numP o).2) = true then .ok (args.map fun o => (numP o).1) else .error 22
def wholeW (args : List PV) : Except Int Int := match args with
 | [o] => if pvK o = 2 ∧ 0 ≤ pvN o ∧ pvN o ≤ 2 then .ok (pvN o) else .error 22
 | _ => .error 22
def m6L : List Int → M6
 | [a, b, c, d, e, f] => ⟨a, b, c, d, e, f⟩
 | _ => m60
def matV (args : List PV) : Except Int M6 := (numsV args 6).map m6L
def catV (a b : M6) : Except Int M6 := if (concatR a b).2 = 0 then .ok (concatR a b).1 else .error 22
def ledV (m : M6) (x y : Int) : Except Int PointV := if (applyR m x y).2 = 0 then .ok ⟨(applyR m x y).1.1, (applyR m x y).1.2⟩ else .error 22
def ledsV (m : M6) : List Int → Except Int (List PointV)
 | x :: y :: r => do let p ← ledV m x y; let q ← ledsV m r; return p :: q
 | _ => .ok []
def stepV (p : PathP × Int) : Except Int PathP := if p.2 = 0 then .ok p.1 else if p.2 = 9 then .error 25 else .error 22
def plusV (a b : Int) : Except Int Int := if (addR a b).2 = 0 then .ok (addR a b).1 else .error 22
def penE (x : PenV) : PenV := { x with pfDash := none, cfDash := 0 }
def clipE (x : ClipV) : ClipV := { x with pfPath := none, cfPath := 0 }
def itemE (x : ItemV) : ItemV := { x with pfPath := none, cfPath := 0, pfClips := none, cfClips := 0, fClips := x.fClips.map clipE, fPen := penE x.fPen, pfBytes := none, cfBytes := 0 }
def penZ : PenV := ⟨0, 0, 0, 0, none, [], 0, 0⟩
def col0 (n : Int) : ColorV := ⟨n, 0, 0, 0, 0⟩
def itemP (kind : Int) (path : List SegV) (color : ColorV) (pen : PenV) (clips : List ClipV) : ItemV := ⟨kind, none, path, 0, color, none, clips, 0, pen, 0, 0, 0, 0, 0, 0, 0, none, [], 0⟩
def itemT (color : ColorV) (clips : List ClipV) (font : Int) (m : M6) (b : List UInt8) : ItemV := ⟨4, none, [], 0, color, none, clips, 0, penZ, font, m.a, m.b, m.c, m.d, m.e, m.f, none, b, 0⟩
def addV (v : Vw) (it : ItemV) : Except Int Vw := do
 roomV (decide (v.items.length < 4096))
 return { v with items := v.items ++ [it] }
def rootI : List Int → Int → Int → Int
 | [], _, r => r
 | b :: l, n, r => rootI l n (if (r + b) * (r + b) ≤ n then r + b else r)
def bits24 : List Int := [16777216, 8388608, 4194304, 2097152, 1048576, 524288, 262144, 131072, 65536, 32768, 16384, 8192, 4096, 2048, 1024, 512, 256, 128, 64, 32, 16, 8, 4, 2, 1]
def sqrtI (a : Int) : Int := let r := rootI bits24 (a * 65536) 0; if a * 65536 - r * r > r then r + 1 else r
def sqrtR (a : Int) : Int × Int := if (fitsB a && decide (0 ≤ a)) = true then (sqrtI a, 0) else (0, 11)
def detR (m : M6) : Int × Int :=
 let s := subR (mulR m.a m.d).1 (mulR m.b m.c).1
 (s.1, tookE (tookE (mulR m.a m.d).2 (mulR m.b m.c).2) s.2)
def scaleR (m : M6) : Int × Int :=
 let d := detR m
 let d2 := if d.1 < 0 then ((subR 0 d.1).1, tookE d.2 (subR 0 d.1).2) else d
 let n := sqrtR (max d2.1 0)
 let e := tookE d2.2 n.2
 if e ≠ 0 then (0, e) else (n.1, 0)
def timesV (by_ n : Int) : Except Int Int := if (mulR n by_).2 = 0 then .ok (mulR n by_).1 else .error 22
def timesL (by_ : Int) : List Int → Except Int (List Int)
 | [] => .ok []
 | n :: r => do let x ← timesV by_ n; let l ← timesL by_ r; return x :: l
def sumL (l : List Int) : Int := l.foldl (· + ·) 0
def scaleE (m : M6) : Except Int Int := if (scaleR m).2 = 0 then .ok (scaleR m).1 else .error 22
def scaledV (s : VwS) : Except Int PenV := do
 let by_ ← scaleE s.ctm
 let w ← timesV by_ s.pen.fWidth
 let ph ← timesV by_ s.pen.fPhase
 let d ← timesL by_ s.pen.fDash
 return if sumL d = 0 ∧ d.length > 0 then { s.pen with fWidth := w, fPhase := 0, pfDash := none, fDash := [], cfDash := 0 } else { s.pen with fWidth := w, fPhase := ph, pfDash := none, fDash := d, cfDash := 0 }
def fillV (v : Vw) (fill : Int) : Except Int Vw := if v.path.list.length > 0 ∧ fill > 0 then addV v (itemP fill v.path.list v.s.fill penZ v.s.clips) else .ok v
def strokeV (v v1 : Vw) (stroke : Bool) : Except Int Vw := if v.path.list.length > 0 ∧ stroke = true then (do let p ← scaledV v.s; addV v1 (itemP 3 v.path.list v.s.stroke p v.s.clips)) else .ok v1
def clippedV (v : Vw) : Except Int (List ClipV) := if v.clip > 0 then (do
   wantV (decide (v.path.list.length > 0))
   roomV (decide (v.s.clips.length < 16))
   return v.s.clips ++ [(⟨none, v.path.list, 0, decide (v.clip = 2)⟩ : ClipV)])
  else .ok v.s.clips
def paintedV (v : Vw) (fill : Int) (stroke : Bool) : Except Int Vw := do
 let v1 ← fillV v fill
 let v2 ← strokeV v v1 stroke
 let cl ← clippedV v
 return { v2 with s := { v.s with clips := cl }, clip := 0, path := path0 }
def closeV (v : Vw) : Except Int Vw := do let p ← stepV (pClose 4096 v.path); return { v with path := p }
def closeIf (v : Vw) (op : List UInt8) : Except Int Vw := if op = [115] ∨ op = [98] ∨ op = [98, 42] then closeV v else .ok v
def paintV (v : Vw) (args : List PV) (op : List UInt8) : Except Int Vw := do
 let _ ← numsV args 0
 let v1 ← closeIf v op
 if op = [83] ∨ op = [115] then paintedV v1 0 true
 else if op = [102] ∨ op = [70] then paintedV v1 1 false
 else if op = [102, 42] then paintedV v1 2 false
 else if op = [66] ∨ op = [98] then paintedV v1 1 true
 else if op = [66, 42] ∨ op = [98, 42] then paintedV v1 2 true
 else paintedV v1 0 false
def part1 (x : Int) : Int := min (max x 0) 65536
def colorW (args : List PV) (n : Nat) : Except Int ColorV := do
 let l ← numsV args n
 return ⟨n, part1 (l.getD 0 0), part1 (l.getD 1 0), part1 (l.getD 2 0), part1 (l.getD 3 0)⟩
def colorsV (v : Vw) (args : List PV) (op : List UInt8) : Except Int Vw :=
 if op = [103] then do let c ← colorW args 1; return { v with s := { v.s with fill := c } }
 else if op = [114, 103] then do let c ← colorW args 3; return { v with s := { v.s with fill := c } }
 else if op = [107] then do let c ← colorW args 4; return { v with s := { v.s with fill := c } }
 else if op = [71] then do let c ← colorW args 1; return { v with s := { v.s with stroke := c } }
 else if op = [82, 71] then do let c ← colorW args 3; return { v with s := { v.s with stroke := c } }
 else do let c ← colorW args 4; return { v with s := { v.s with stroke := c } }
def posL : List PV → Except Int (List Int)
 | [] => .ok []
 | o :: r => do wantV ((numP o).2 && decide ((numP o).1 ≥ 0)); let l ← posL r; return (numP o).1 :: l
def dashV (v : Vw) (args : List PV) : Except Int Vw := match args with
 | [a, b] => do
  wantV (decide (pvK a = 6))
  wantV ((numP b).2 && decide ((numP b).1 ≥ 0))
  let l ← posL (pvLs a)
  wantV (decide (l.length ≤ 11) && (decide (l.length = 0) || decide (sumL l > 0)))
  return { v with s := { v.s with pen := { v.s.pen with pfDash := none, fDash := l, cfDash := 0, fPhase := (numP b).1 } } }
 | _ => .error 22
def pensV (v : Vw) (args : List PV) (op : List UInt8) : Except Int Vw :=
 if op = [119] then do let l ← numsV args 1; wantV (decide (l.getD 0 0 ≥ 0)); return { v with s := { v.s with pen := { v.s.pen with fWidth := l.getD 0 0 } } }
 else if op = [74] then do let n ← wholeW args; return { v with s := { v.s with pen := { v.s.pen with fCap := n } } }
 else if op = [106] then do let n ← wholeW args; return { v with s := { v.s with pen := { v.s.pen with fJoin := n } } }
 else if op = [77] then do let l ← numsV args 1; wantV (decide (l.getD 0 0 ≥ 65536)); return { v with s := { v.s with pen := { v.s.pen with fMiter := l.getD 0 0 } } }
 else dashV v args
def statesV (v : Vw) (args : List PV) (op : List UInt8) : Except Int Vw :=
 if op = [113] then do let _ ← numsV args 0; roomV (decide (v.saved.length < 32)); return { v with saved := v.s :: v.saved }
 else if op = [81] then do
  let _ ← numsV args 0
  match v.saved with
  | [] => .error 22
  | s :: r => return { v with s := s, saved := r }
 else do let m ← matV args; let c ← catV m v.s.ctm; return { v with s := { v.s with ctm := c } }
def setP (v : Vw) (p : PathP) : Vw := { v with path := p }
def drawV (v : Vw) (args : List PV) (op : List UInt8) : Except Int Vw :=
 if op = [109] then do let l ← ledsV v.s.ctm (← numsV args 2); return setP v (← stepV (pMove 4096 v.path (l.getD 0 pt0)))
 else if op = [108] then do let l ← ledsV v.s.ctm (← numsV args 2); return setP v (← stepV (pLine 4096 v.path (l.getD 0 pt0)))
 else if op = [99] then do let l ← ledsV v.s.ctm (← numsV args 6); return setP v (← stepV (pCurve 4096 v.path (l.getD 0 pt0) (l.getD 1 pt0) (l.getD 2 pt0)))
 else if op = [118] then do let l ← ledsV v.s.ctm (← numsV args 4); wantV (decide (v.path.list.length ≠ 0)); return setP v (← stepV (pCurve 4096 v.path v.path.now (l.getD 0 pt0) (l.getD 1 pt0)))
 else if op = [121] then do let l ← ledsV v.s.ctm (← numsV args 4); return setP v (← stepV (pCurve 4096 v.path (l.getD 0 pt0) (l.getD 1 pt0) (l.getD 1 pt0)))
 else if op = [104] then do let _ ← numsV args 0; closeV v
 else do
  let n ← numsV args 4
  let x ← plusV (n.getD 0 0) (n.getD 2 0)
  let y ← plusV (n.getD 1 0) (n.getD 3 0)
  let l ← ledsV v.s.ctm [n.getD 0 0, n.getD 1 0, x, n.getD 1 0, x, y, n.getD 0 0, y]
  let p0 ← stepV (pMove 4096 v.path (l.getD 0 pt0))
  let p1 ← stepV (pLine 4096 p0 (l.getD 1 pt0))
  let p2 ← stepV (pLine 4096 p1 (l.getD 2 pt0))
  let p3 ← stepV (pLine 4096 p2 (l.getD 3 pt0))
  return setP v (← stepV (pClose 4096 p3))
structure FtV where
 name : List UInt8
 font : Int
def chooseV (fs : List FtV) (v : Vw) (args : List PV) : Except Int Vw := match args with
 | [a, b] => do
  wantV (decide (pvK a = 4))
  wantV (numP b).2
  match fs.find? (fun f => decide (f.name = pvT a)) with
  | none => .error 26
  | some f => return { v with s := { v.s with font := f.font, size := (numP b).1 } }
 | _ => .error 22
def lostV (sum : Int → List UInt8 → Int) (v : Vw) (b : List UInt8) : M6 × Bool :=
 let n := sum v.s.font b * 65536
 let w := if 2 * (n % 1000) ≥ 1000 then n / 1000 + 1 else n / 1000
 let t := concatR (m6T (mulR w v.s.size).1 0) v.text
 (t.1, !(decide ((mulR w v.s.size).2 = 0) && decide (t.2 = 0)))
def showV (sum : Int → List UInt8 → Int) (v : Vw) (b : List UInt8) : Except Int Vw := do
 let m1 ← catV (m6S v.s.size v.s.size) v.text
 let m ← catV m1 v.s.ctm
 let v1 ← addV v (itemT v.s.fill v.s.clips v.s.font m b)
 return { v1 with lost := (lostV sum v b).2, text := (lostV sum v b).1 }
def lettersV (sum : Int → List UInt8 → Int) (v : Vw) (args : List PV) : Except Int Vw := match args with
 | [a] => do
  wantV (decide (pvK a = 5) && decide (v.s.font ≥ 0) && !v.lost)
  if pvT a = [] then .ok v else showV sum v (pvT a)
 | _ => .error 22
def textsV (sum : Int → List UInt8 → Int) (fs : List FtV) (v : Vw) (args : List PV) (op : List UInt8) : Except Int Vw := do
 wantV (decide (v.inText = true ↔ op ≠ [66, 84]))
 if op = [66, 84] then do let _ ← numsV args 0; return { v with inText := true, lost := false, text := m6I, line := m6I }
 else if op = [69, 84] then do let _ ← numsV args 0; return { v with inText := false }
 else if op = [84, 102] then chooseV fs v args
 else if op = [84, 109] then do let m ← matV args; return { v with line := m, text := m, lost := false }
 else if op = [84, 100] then do let n ← numsV args 2; let m ← catV (m6T (n.getD 0 0) (n.getD 1 0)) v.line; return { v with line := m, text := m, lost := false }
 else lettersV sum v args
def penOps : List (List UInt8) := [[119], [74], [106], [77], [100]]
def colOps : List (List UInt8) := [[103], [114, 103], [107], [71], [82, 71], [75]]
def txtOps : List (List UInt8) := [[66, 84], [69, 84], [84, 102], [84, 109], [84, 100], [84, 106]]
def knownOps : List (List UInt8) := [[113], [81], [99, 109], [109], [108], [99], [118], [121], [104], [114, 101], [83], [115], [102], [70], [102, 42], [66], [66, 42], [98], [98, 42], [110], [87], [87, 42]]
def opV (sum : Int → List UInt8 → Int) (fs : List FtV) (v : Vw) (args : List PV) (op : List UInt8) : Except Int Vw :=
 if op ∈ penOps then pensV v args op else if op ∈ colOps then colorsV v args op else if op ∈ txtOps then textsV sum fs v args op
 else if op ∉ knownOps then .error 23
 else do
  wantV (!v.inText)
  if knownOps.idxOf op < 3 then statesV v args op
  else if knownOps.idxOf op < 10 then drawV v args op
  else if op = [87] ∨ op = [87, 42] then do let _ ← numsV args 0; return { v with clip := op.length }
  else paintV v args op
end
section
theorem bindE {α β : Type} {x : Except Int α} {f : α → Except Int β} {b : β} (h : (x >>= f) = .ok b) : ∃ a, x = .ok a ∧ f a = .ok b := by
 cases x with
 | error k => cases h
 | ok a => exact ⟨a, rfl, h⟩
theorem pureE {α : Type} {a b : α} (h : (pure a : Except Int α) = .ok b) : a = b := by cases h; rfl
structure SndP (p : PathP) : Prop where
 snd : segsB 0 p.list = true
 len : p.list.length ≤ 4096
 start : fitsP p.start = true
 now : fitsP p.now = true
def lastF (k : Int) (l : List SegV) : Int := match l.getLast? with | none => k | some s => s.fKind
theorem lastF_cons (k : Int) (s : SegV) (l : List SegV) : lastF k (s :: l) = lastF s.fKind l := by
 unfold lastF
 cases l with
 | nil => rfl
 | cons a r => rw [List.getLast?_cons_cons]; cases h : (a :: r).getLast? with
  | none => simp at h
  | some x => rfl
theorem segsB_snoc (s : SegV) : ∀ (l : List SegV) (k : Int), segsB k (l ++ [s]) = (segsB k l && segB s (lastF k l))
 | [], k => by show (segB s k && true) = (true && segB s k); simp
 | a :: r, k => by
  rw [List.cons_append]
  show (segB a k && segsB a.fKind (r ++ [s])) = ((segB a k && segsB a.fKind r) && segB s (lastF k (a :: r)))
  rw [segsB_snoc s r, lastF_cons, Bool.and_assoc]
theorem lastF_G (l : List SegV) : lastF 0 l = lastG l := rfl
theorem segB_1 {a : PointV} {k : Int} (h : fitsP a = true) (hk : k ≠ 1) : segB (sg1 1 a) k = true := by
 unfold segB sg1
 simp only [show segN 1 = 1 from rfl, folB, if_pos, h, List.all_cons, List.all_nil, Int.toNat_one, List.drop_succ_cons, List.drop_zero]
 simp [hk, pt0, fitsP, fitsB, zeroP]
theorem segB_2 {a : PointV} {k : Int} (h : fitsP a = true) (h0 : k ≠ 0) (h4 : k ≠ 4) : segB (sg1 2 a) k = true := by
 unfold segB sg1
 simp only [show segN 2 = 1 from rfl, folB, h, List.all_cons, List.all_nil, Int.toNat_one, List.drop_succ_cons, List.drop_zero]
 simp [h0, h4, pt0, fitsP, fitsB, zeroP]
theorem segB_3 {a b c : PointV} {k : Int} (h : (fitsP a && fitsP b && fitsP c) = true) (h0 : k ≠ 0) (h4 : k ≠ 4) : segB ⟨3, a, b, c⟩ k = true := by
 simp only [Bool.and_eq_true] at h
 unfold segB
 simp only [show segN 3 = 3 from rfl, folB, h.1.1, h.1.2, h.2, List.all_cons, List.all_nil]
 simp [h0, h4]
theorem segB_4 {k : Int} (h0 : k ≠ 0) (h4 : k ≠ 4) : segB (sg1 4 pt0) k = true := by
 unfold segB sg1
 simp only [show segN 4 = 0 from rfl, folB, List.all_cons, List.all_nil]
 simp [h0, h4, pt0, fitsP, fitsB, zeroP]
theorem SndP.add {p : PathP} {q : PointV} {l : List SegV} (h : SndP p) (hq : fitsP q = true) (hl : segsB 0 (p.list ++ l) = true) : SndP (pAdd 4096 p q l).1 := by
 unfold pAdd; split
 ·
  exact h
 ·
  exact ⟨hl, by rw [List.length_append]; omega, h.start, hq⟩
theorem SndP.draw {p : PathP} {s : SegV} {q : PointV} (h : SndP p) (hq : fitsP q = true) (hs : ∀ k, k ≠ 0 → k ≠ 4 → segB s k = true) : SndP (pDraw 4096 p s q).1 := by
 unfold pDraw
 split
 ·
  exact h
 ·
  split
  ·
   rename_i h4
   refine h.add hq ?_
   rw [show p.list ++ [sg1 1 p.now, s] = (p.list ++ [sg1 1 p.now]) ++ [s] by simp, segsB_snoc, segsB_snoc, h.snd, lastF_G, segB_1 h.now (by rw [h4]; decide)]
   rw [show lastF 0 (p.list ++ [sg1 1 p.now]) = 1 by unfold lastF; rw [List.getLast?_concat]; rfl, hs 1 dD dD]; rfl
  ·
   refine h.add hq ?_
   rw [segsB_snoc, h.snd, lastF_G, hs _ aS aS]; rfl
theorem segsB_drop (l : List SegV) (k : Int) (h : segsB k l = true) : segsB k l.dropLast = true := by
 rcases List.eq_nil_or_concat l with rfl | ⟨m, y, rfl⟩
 ·
  rfl
 ·
  rw [List.concat_eq_append] at h ⊢
  rw [List.dropLast_concat]
  rw [segsB_snoc, Bool.and_eq_true] at h; exact h.1
theorem follow_drop (l : List SegV) (h : segsB 0 l = true) (h1 : lastG l = 1) : lastF 0 l.dropLast ≠ 1 := by
 rcases List.eq_nil_or_concat l with rfl | ⟨m, y, rfl⟩
 ·
  cases h1
 ·
  rw [List.concat_eq_append] at h h1 ⊢
  rw [List.dropLast_concat]
  rw [segsB_snoc, Bool.and_eq_true] at h
  have hy : y.fKind = 1 := by unfold lastG at h1; rw [List.getLast?_concat] at h1; exact h1
  intro hc
  have := h.2
  unfold segB at this
  rw [hc, hy] at this
  simp [folB] at this
theorem SndP.move {p : PathP} {a : PointV} (h : SndP p) : SndP (pMove 4096 p a).1 := by
 unfold pMove
 split
 ·
  exact h
 ·
  rename_i hf
  have hf : fitsP a = true := by simpa using hf
  split
  ·
   rename_i h1
   refine ⟨?_, by simp only [List.length_append, List.length_dropLast, List.length_singleton]; have := h.len; omega, hf, hf⟩
   show segsB 0 (p.list.dropLast ++ [sg1 1 a]) = true
   rw [segsB_snoc, segsB_drop _ _ h.snd, segB_1 hf (follow_drop _ h.snd h1)]; rfl
  ·
   rename_i h1
   have hA := h.add (q := a) (l := [sg1 1 a]) hf (by rw [segsB_snoc, h.snd, lastF_G, segB_1 hf h1]; rfl)
   simp only
   split
   ·
    exact ⟨hA.snd, hA.len, hf, hA.now⟩
   ·
    exact hA
theorem SndP.line {p : PathP} {a : PointV} (h : SndP p) : SndP (pLine 4096 p a).1 := by
 unfold pLine
 split
 ·
  exact h
 ·
  rename_i hf
  have hf : fitsP a = true := by simpa using hf
  exact h.draw hf fun k b c => segB_2 hf b c
theorem SndP.curve {p : PathP} {a b c : PointV} (h : SndP p) : SndP (pCurve 4096 p a b c).1 := by
 unfold pCurve
 split
 ·
  exact h
 ·
  rename_i hf
  have hf : (fitsP a && fitsP b && fitsP c) = true := by
   cases hq : (fitsP a && fitsP b && fitsP c) with
   | true => rfl
   | false => exact ab_ hq hf
  have hc : fitsP c = true := by simp only [Bool.and_eq_true] at hf; exact hf.2
  exact h.draw hc fun k d e => segB_3 hf d e
theorem SndP.close {p : PathP} (h : SndP p) : SndP (pClose 4096 p).1 := by
 unfold pClose
 split
 ·
  exact h
 ·
  rename_i h0
  refine h.add h.start ?_
  rw [segsB_snoc, h.snd, lastF_G, segB_4 (fun e => h0 (.inl e)) (fun e => h0 (.inr e))]; rfl
theorem SndP.zero : SndP path0 := ⟨rfl, nl_ _, by decide, by decide⟩
theorem stepV_ok {r : PathP × Int} {p : PathP} (h : stepV r = .ok p) : p = r.1 := by
 unfold stepV at h
 split at h
 ·
  cases h; rfl
 ·
  split at h <;> cases h
theorem fromV_fits {n : Int} (h : (fromV n).2 = 0) : fitsB (fromV n).1 = true := by
 unfold fromV at h ⊢
 split at h
 ·
  cases h
 ·
  rename_i h1; rw [if_neg h1]; exact fitsN (by simp only; omega) (by simp only; omega)
theorem numP_fits {o : PV} (h : (numP o).2 = true) : fitsB (numP o).1 = true := by
 unfold numP at h ⊢
 split at h
 ·
  rename_i h3; rw [if_pos h3]; exact h
 ·
  rename_i h3
  rw [if_neg h3]
  split at h
  ·
   rename_i h2; rw [if_pos h2]; exact fromV_fits (by simpa using h)
  ·
   cases h
theorem numsV_ok {args : List PV} {n : Nat} {l : List Int} (h : numsV args n = .ok l) : l.length = n ∧ ∀ x ∈ l, fitsB x = true := by
 unfold numsV at h
 split at h
 ·
  rename_i hc
  cases h
  refine ⟨by rw [List.length_map]; exact hc.1, fun x hx => ?_⟩
  obtain ⟨o, ho, rfl⟩ := List.mem_map.1 hx
  exact numP_fits (List.all_eq_true.1 hc.2 o ho)
 ·
  cases h
theorem getD_fits {l : List Int} (h : ∀ x ∈ l, fitsB x = true) (i : Nat) : fitsB (l.getD i 0) = true := by
 rw [List.getD_eq_getElem?_getD]
 cases hq : l[i]? with
 | none => rfl
 | some x => exact h x (List.mem_of_getElem? hq)
theorem part1_ok (x : Int) : 0 ≤ part1 x ∧ part1 x ≤ 65536 := by unfold part1; omega
theorem getD_none {l : List Int} {i : Nat} (h : l.length ≤ i) : l.getD i 0 = 0 := by
 rw [List.getD_eq_getElem?_getD, List.getElem?_eq_none h]; rfl
theorem color_snd {args : List PV} {n : Nat} {c : ColorV} (h : colorW args n = .ok c) (hn : n = 1 ∨ n = 3 ∨ n = 4) : colorB c = true := by
  unfold colorW at h
  obtain ⟨l, hl, h⟩ := bindE h
  obtain ⟨k, -⟩ := numsV_ok hl
  have h := pureE h
  subst h
  unfold colorB partB spaceB
  simp only [parts, List.getElem_cons_zero, List.getElem_cons_succ]
  have a := part1_ok (l.getD 0 0); have d := part1_ok (l.getD 1 0); have e := part1_ok (l.getD 2 0); have f := part1_ok (l.getD 3 0)
  have z : ∀ i, l.length ≤ i → part1 (l.getD i 0) = 0 := fun i hi => by rw [getD_none hi]; rfl
  have m : 1 ≤ l.length := by omega
  rcases hn with rfl | rfl | rfl
  · have g := z 1 oO; have j := z 2 oO; have b := z 3 oO
    generalize part1 (l.getD 0 0) = a0 at *; generalize part1 (l.getD 1 0) = a1 at *; generalize part1 (l.getD 2 0) = a2 at *; generalize part1 (l.getD 3 0) = a3 at *
    subst g j b; simp [a]
  · have b := z 3 oO
    generalize part1 (l.getD 0 0) = a0 at *; generalize part1 (l.getD 1 0) = a1 at *; generalize part1 (l.getD 2 0) = a2 at *; generalize part1 (l.getD 3 0) = a3 at *
    subst b; simp [a, d, e]
  · generalize part1 (l.getD 0 0) = a0 at *; generalize part1 (l.getD 1 0) = a1 at *; generalize part1 (l.getD 2 0) = a2 at *; generalize part1 (l.getD 3 0) = a3 at *
    simp [a, d, e, f]
structure SndS (s : VwS) : Prop where
 fill : colorB s.fill = true
 stroke : colorB s.stroke = true
 pen : penB s.pen = true
 clips : clipsB s.clips = true
 font : -1 ≤ s.font ∧ s.font ≤ 13
structure SndV (v : Vw) : Prop where
 s : SndS v.s
 saved : ∀ s ∈ v.saved, SndS s
 path : SndP v.path
 items : ∀ it ∈ v.items, itemB it = true
theorem concat_fits {a b : M6} (h : (concatR a b).2 = 0) : fitsB (concatR a b).1.a = true ∧ fitsB (concatR a b).1.b = true ∧ fitsB (concatR a b).1.c = true ∧ fitsB (concatR a b).1.d = true ∧ fitsB (concatR a b).1.e = true ∧ fitsB (concatR a b).1.f = true := by
 have hp : ∀ (e x y : Int), fitsB x = true → fitsB y = true → fitsB (pointR e x y).1.1 = true ∧ fitsB (pointR e x y).1.2 = true := fun e x y hx hy => by
  unfold pointR; split
  ·
   exact ⟨rfl, rfl⟩
  ·
   exact ⟨hx, hy⟩
 have hd : ∀ x y, fitsB (deltaR b x y).1.1 = true ∧ fitsB (deltaR b x y).1.2 = true := fun x y => hp _ _ _ (twoR_fits _ _ _ _ _ _) (twoR_fits _ _ _ _ _ _)
 have ha : ∀ x y, fitsB (applyR b x y).1.1 = true ∧ fitsB (applyR b x y).1.2 = true := fun x y => hp _ _ _ (twoR_fits _ _ _ _ _ _) (twoR_fits _ _ _ _ _ _)
 unfold concatR
 simp only
 split
 ·
  exact ⟨rfl, rfl, rfl, rfl, rfl, rfl⟩
 ·
  split
  ·
   exact ⟨rfl, rfl, rfl, rfl, rfl, rfl⟩
  ·
   split
   ·
    exact ⟨rfl, rfl, rfl, rfl, rfl, rfl⟩
   ·
    exact ⟨(hd _ _).1, (hd _ _).2, (hd _ _).1, (hd _ _).2, (ha _ _).1, (ha _ _).2⟩
theorem over_nn {a : Int} (h : 0 ≤ a) : 0 ≤ overI a 65536 := by
 have b := Int.tdiv_nonneg h (show (0 : Int) ≤ 65536 by decide)
 have c := Int.tmod_nonneg 65536 h
 unfold overI
 split
 ·
  omega
 ·
  split <;> omega
theorem mul_nn {a b : Int} (ha : 0 ≤ a) (hb : 0 ≤ b) : 0 ≤ (mulR a b).1 := by
 unfold mulR; split
 ·
  unfold withR; split
  ·
   exact over_nn (Int.mul_nonneg ha hb)
  ·
   exact Int.le_refl _
 ·
  exact Int.le_refl _
theorem root_nn : ∀ (l : List Int) (n r : Int), 0 ≤ r → (∀ b ∈ l, 0 ≤ b) → 0 ≤ rootI l n r
 | [], _, _, h, _ => h
 | b :: l, n, r, h, hl => by
  rw [rootI]
  refine root_nn l n _ ?_ fun x hx => hl x (by simp [hx])
  have := hl b (by simp)
  split <;> omega
theorem sqrt_nn (a : Int) : 0 ≤ sqrtI a := by
 have := root_nn bits24 (a * 65536) 0 (Int.le_refl _) dD
 unfold sqrtI
 simp only
 split <;> omega
theorem scale_nn (m : M6) : 0 ≤ (scaleR m).1 := by
 unfold scaleR
 simp only
 generalize (if (detR m).1 < 0 then ((subR 0 (detR m).1).1, tookE (detR m).2 (subR 0 (detR m).1).2) else detR m) = d
 split
 ·
  exact Int.le_refl _
 ·
  unfold sqrtR; split
  ·
   exact sqrt_nn _
  ·
   exact Int.le_refl _
theorem times_ok {k n x : Int} (h : timesV k n = .ok x) : x = (mulR n k).1 := by
 unfold timesV at h; split at h
 ·
  cases h; rfl
 ·
  cases h
theorem timesL_ok {k : Int} (hk : 0 ≤ k) : ∀ {l m : List Int}, timesL k l = .ok m → (∀ n ∈ l, 0 ≤ n) → m.length = l.length ∧ m.all dashB = true
 | [], m, h, _ => by cases h; exact ⟨rfl, rfl⟩
 | n :: r, m, h, hn => by
  rw [timesL] at h
  obtain ⟨x, hx, h⟩ := bindE h
  obtain ⟨q, hq, h⟩ := bindE h
  have h := pureE h
  subst h
  have ih := timesL_ok hk hq fun y hy => hn y (by simp [hy])
  rw [times_ok hx]
  refine ⟨by simp [ih.1], ?_⟩
  rw [List.all_cons, ih.2, Bool.and_true]
  unfold dashB
  rw [mulR_fits, Bool.and_true]
  exact decide_eq_true (mul_nn (hn n (by simp)) hk)
theorem penB_iff (x : PenV) : penB x = true ↔ (0 ≤ x.fWidth ∧ fitsB x.fWidth = true ∧ 0 ≤ x.fCap ∧ x.fCap ≤ 2 ∧ 0 ≤ x.fJoin ∧ x.fJoin ≤ 2 ∧ 65536 ≤ x.fMiter ∧ fitsB x.fMiter = true ∧ 0 ≤ x.fPhase ∧ fitsB x.fPhase = true ∧ x.fDash.length ≤ 11) ∧ x.fDash.all dashB = true ∧ (x.fDash.isEmpty || x.fDash.any fun n => decide (0 < n)) = true := by
 unfold penB penH
 simp only [Bool.and_eq_true, Bool.not_eq_true', Bool.or_eq_false_iff, decide_eq_false_iff_not, Bool.not_eq_false']
 constructor
 ·
  rintro ⟨⟨⟨⟨⟨⟨⟨⟨⟨⟨⟨⟨g, d⟩, i⟩, j⟩, k⟩, l⟩, m⟩, e⟩, o⟩, a⟩, f⟩, b⟩, c⟩
  exact ⟨⟨by omega, d, by omega, by omega, by omega, by omega, by omega, e, by omega, a, by omega⟩, b, c⟩
 ·
  rintro ⟨⟨g, d, i, j, k, l, m, e, o, a, f⟩, b, c⟩
  exact ⟨⟨⟨⟨⟨⟨⟨⟨⟨⟨⟨⟨by omega, d⟩, by omega⟩, by omega⟩, by omega⟩, by omega⟩, by omega⟩, e⟩, by omega⟩, a⟩, by omega⟩, b⟩, c⟩
theorem mustE {b : Bool} {u : Unit} (h : wantV b = .ok u) : b = true := by
 unfold wantV at h; split at h
 ·
  assumption
 ·
  cases h
theorem roomE {b : Bool} {u : Unit} (h : roomV b = .ok u) : b = true := by
 unfold roomV at h; split at h
 ·
  assumption
 ·
  cases h
theorem sumL_I (l : List Int) : sumL l = sumI l := rfl
theorem scaled_snd {s : VwS} {p : PenV} (h : SndS s) (hp : scaledV s = .ok p) : penB p = true := by
 unfold scaledV at hp
 obtain ⟨k, hk, hp⟩ := bindE hp
 have hk : k = (scaleR s.ctm).1 := by
  unfold scaleE at hk
  split at hk
  ·
   cases hk; rfl
  ·
   cases hk
 have b : 0 ≤ k := hk ▸ scale_nn _
 obtain ⟨w, hw, hp⟩ := bindE hp
 obtain ⟨ph, g, hp⟩ := bindE hp
 obtain ⟨d, hd, hp⟩ := bindE hp
 have hp := pureE hp
 obtain ⟨⟨i, C, j, l, m, o, q, t, x, y, A⟩, u, B⟩ := (penB_iff _).1 h.pen
 have f := List.all_eq_true.1 u
 obtain ⟨hl, c⟩ := timesL_ok b hd fun n hn => by
  have := f n hn
  unfold dashB at this
  simp only [Bool.and_eq_true, decide_eq_true_eq] at this
  exact this.1
 have v := sum_bound d (List.all_eq_true.1 c)
 rw [times_ok hw, times_ok g] at hp
 subst hp
 split
 ·
  exact (penB_iff _).2 ⟨⟨mul_nn i b, mulR_fits _ _, j, l, m, o, q, t, Int.le_refl _, rfl, nl_ _⟩, rfl, rfl⟩
 ·
  rename_i hn
  refine (penB_iff _).2 ⟨⟨mul_nn i b, mulR_fits _ _, j, l, m, o, q, t, mul_nn x b, mulR_fits _ _, by show d.length ≤ 11; omega⟩, c, ?_⟩
  show (d.isEmpty || d.any fun n => decide (0 < n)) = true
  cases d with
  | nil => rfl
  | cons a r =>
   have : sumL (a :: r) ≠ 0 := fun e => hn ⟨e, by simp⟩
   rw [sumL_I, sumI_sum] at this
   rw [v.2.2.1 oO, Bool.or_true]
theorem item_snd {kind : Int} {l : List SegV} {c : ColorV} {p : PenV} {cl : List ClipV} (hk : (kind = 1 ∨ kind = 2) ∧ p = penZ ∨ kind = 3 ∧ penB p = true) (hc : colorB c = true) (hcl : clipsB cl = true) (hl : l.length > 0) (hp : segsB 0 l = true) (hn : l.length ≤ 4096) : itemB (itemP kind l c p cl) = true := by
 have hr : restB (itemP kind l c p cl) = true := by
  unfold restB itemP mat0 pathB
  simp [hp, hn]
  intro h; rw [h] at hl; simp at hl
 unfold itemB
 rw [show (itemP kind l c p cl).fColor = c from rfl, show (itemP kind l c p cl).fClips = cl from rfl, show (itemP kind l c p cl).fKind = kind from rfl, show (itemP kind l c p cl).fPen = p from rfl, hc, hcl, hr]
 rcases hk with ⟨hk, rfl⟩ | ⟨rfl, hp⟩
 ·
  rw [if_neg oO, if_pos hk]; rfl
 ·
  rw [if_neg oO, if_neg oO, if_pos rfl, hp]; rfl
theorem text_snd {c : ColorV} {cl : List ClipV} {f : Int} {a b : M6} {t : List UInt8} (he : (concatR a b).2 = 0) (hc : colorB c = true) (hcl : clipsB cl = true) (hf : 0 ≤ f ∧ f ≤ 13) (ht : 1 ≤ t.length ∧ t.length ≤ 65535) : itemB (itemT c cl f (concatR a b).1 t) = true := by
 obtain ⟨d, e, g, i, j, k⟩ := concat_fits he
 unfold itemB
 rw [show (itemT c cl f (concatR a b).1 t).fColor = c from rfl, show (itemT c cl f (concatR a b).1 t).fClips = cl from rfl, show (itemT c cl f (concatR a b).1 t).fKind = 4 from rfl, hc, hcl, if_pos rfl]
 have hl : lettersB (itemT c cl f (concatR a b).1 t) = true := by
  unfold lettersB itemT mats
  simp [d, e, g, i, j, k, hf]
  omega
 rw [hl]; rfl
end
section
theorem addV_snd {v v1 : Vw} {it : ItemV} (h : SndV v) (hi : itemB it = true) (ho : addV v it = .ok v1) : SndV v1 ∧ v1.s = v.s ∧ v1.path = v.path := by
 unfold addV at ho
 obtain ⟨_, -, ho⟩ := bindE ho
 have ho := pureE ho
 subst ho
 refine ⟨⟨h.s, h.saved, h.path, fun x hx => ?_⟩, rfl, rfl⟩
 rcases List.mem_append.1 hx with hx | hx
 ·
  exact h.items x hx
 ·
  rw [List.mem_singleton.1 hx]; exact hi
theorem closeV_snd {v v1 : Vw} (h : SndV v) (ho : closeV v = .ok v1) : SndV v1 := by
 unfold closeV at ho
 obtain ⟨p, hp, ho⟩ := bindE ho
 have ho := pureE ho
 subst ho
 rw [stepV_ok hp]
 exact ⟨h.s, h.saved, h.path.close, h.items⟩
theorem paintedV_snd {v v1 : Vw} {fill : Int} {st : Bool} (h : SndV v) (hf : fill = 0 ∨ fill = 1 ∨ fill = 2) (ho : paintedV v fill st = .ok v1) : SndV v1 := by
 unfold paintedV at ho
 obtain ⟨a, ha, ho⟩ := bindE ho
 obtain ⟨b, hb, ho⟩ := bindE ho
 obtain ⟨c, hc, ho⟩ := bindE ho
 have ho := pureE ho
 have e : SndV a ∧ a.s = v.s := by
  unfold fillV at ha
  split at ha
  ·
   rename_i hq
   have := addV_snd h (item_snd (p := penZ) (.inl ⟨by omega, rfl⟩) h.s.fill h.s.clips hq.1 h.path.snd h.path.len) ha
   exact ⟨this.1, this.2.1⟩
  ·
   cases ha; exact ⟨h, rfl⟩
 have f : SndV b := by
  unfold strokeV at hb
  split at hb
  ·
   rename_i hq
   obtain ⟨p, hp, hb⟩ := bindE hb
   exact (addV_snd e.1 (item_snd (.inr ⟨rfl, scaled_snd h.s hp⟩) h.s.stroke h.s.clips hq.1 h.path.snd h.path.len) hb).1
  ·
   cases hb; exact e.1
 have i : clipsB c = true := by
  unfold clippedV at hc
  split at hc
  ·
   obtain ⟨_, hw, hc⟩ := bindE hc
   obtain ⟨_, hr, hc⟩ := bindE hc
   have hc := pureE hc
   subst hc
   have hw := dT (mustE hw)
   have hr := dT (roomE hr)
   have d := h.s.clips
   unfold clipsB at d ⊢
   simp only [Bool.and_eq_true, decide_eq_true_eq] at d
   rw [List.all_append, d.2, List.length_append, List.length_singleton]
   have g : clipB (⟨none, v.path.list, 0, decide (v.clip = 2)⟩ : ClipV) = true := by
    unfold clipB pathB
    rw [h.path.snd, decide_eq_true h.path.len]
    cases hq : v.path.list with
    | nil => rw [hq] at hw; simp at hw
    | cons x r => rfl
   rw [List.all_cons, g, List.all_nil]
   simp only [Bool.and_true, decide_eq_true_eq]
   omega
  ·
   cases hc; exact h.s.clips
 subst ho
 exact ⟨⟨h.s.fill, h.s.stroke, h.s.pen, i, h.s.font⟩, f.saved, SndP.zero, f.items⟩
theorem paintV_snd {v v1 : Vw} {args : List PV} {op : List UInt8} (h : SndV v) (ho : paintV v args op = .ok v1) : SndV v1 := by
 unfold paintV at ho
 obtain ⟨_, -, ho⟩ := bindE ho
 obtain ⟨a, ha, ho⟩ := bindE ho
 have b : SndV a := by
  unfold closeIf at ha
  split at ha
  ·
   exact closeV_snd h ha
  ·
   cases ha; exact h
 split at ho
 ·
  exact paintedV_snd b oO ho
 ·
  split at ho
  ·
   exact paintedV_snd b oO ho
  ·
   split at ho
   ·
    exact paintedV_snd b oO ho
   ·
    split at ho
    ·
     exact paintedV_snd b oO ho
    ·
     split at ho
     ·
      exact paintedV_snd b oO ho
     ·
      exact paintedV_snd b oO ho
theorem SndV.setS {v : Vw} {s : VwS} (h : SndV v) (hs : SndS s) : SndV { v with s := s } := ⟨hs, h.saved, h.path, h.items⟩
theorem colorsV_snd {v v1 : Vw} {args : List PV} {op : List UInt8} (h : SndV v) (ho : colorsV v args op = .ok v1) : SndV v1 := by
 unfold colorsV at ho
 have hF : ∀ {n : Nat}, (n = 1 ∨ n = 3 ∨ n = 4) → (do let c ← colorW args n; return { v with s := { v.s with fill := c } } : Except Int Vw) = .ok v1 → SndV v1 := fun hn ho => by
  obtain ⟨c, hc, ho⟩ := bindE ho
  have ho := pureE ho
  subst ho
  exact h.setS ⟨color_snd hc hn, h.s.stroke, h.s.pen, h.s.clips, h.s.font⟩
 have hS : ∀ {n : Nat}, (n = 1 ∨ n = 3 ∨ n = 4) → (do let c ← colorW args n; return { v with s := { v.s with stroke := c } } : Except Int Vw) = .ok v1 → SndV v1 := fun hn ho => by
  obtain ⟨c, hc, ho⟩ := bindE ho
  have ho := pureE ho
  subst ho
  exact h.setS ⟨h.s.fill, color_snd hc hn, h.s.pen, h.s.clips, h.s.font⟩
 split at ho
 ·
  exact hF oO ho
 ·
  split at ho
  ·
   exact hF oO ho
  ·
   split at ho
   ·
    exact hF oO ho
   ·
    split at ho
    ·
     exact hS oO ho
    ·
     split at ho
     ·
      exact hS oO ho
     ·
      exact hS oO ho
theorem posL_ok : ∀ {l : List PV} {m : List Int}, posL l = .ok m → m.all dashB = true
 | [], m, h => by cases h; rfl
 | o :: r, m, h => by
  rw [posL] at h
  obtain ⟨_, hw, h⟩ := bindE h
  obtain ⟨q, hq, h⟩ := bindE h
  have h := pureE h
  subst h
  have hw := mustE hw
  simp only [Bool.and_eq_true, decide_eq_true_eq] at hw
  rw [List.all_cons, posL_ok hq, Bool.and_true]
  unfold dashB
  rw [numP_fits hw.1, Bool.and_true]
  exact decide_eq_true hw.2
theorem SndV.setPen {v : Vw} {p : PenV} (h : SndV v) (hp : penB p = true) : SndV { v with s := { v.s with pen := p } } := h.setS ⟨h.s.fill, h.s.stroke, hp, h.s.clips, h.s.font⟩
theorem dashV_snd {v v1 : Vw} {args : List PV} (h : SndV v) (ho : dashV v args = .ok v1) : SndV v1 := by
 unfold dashV at ho
 split at ho
 ·
  obtain ⟨_, -, ho⟩ := bindE ho
  obtain ⟨_, hb, ho⟩ := bindE ho
  obtain ⟨l, hl, ho⟩ := bindE ho
  obtain ⟨_, hs, ho⟩ := bindE ho
  have ho := pureE ho
  subst ho
  have hb := mustE hb
  have hs := mustE hs
  simp only [Bool.and_eq_true, Bool.or_eq_true, decide_eq_true_eq] at hb hs
  have hd := posL_ok hl
  have b := sum_bound l (List.all_eq_true.1 hd)
  obtain ⟨⟨c, d, e, f, g, i, j, k, -, -, -⟩, -, -⟩ := (penB_iff _).1 h.s.pen
  refine h.setPen ((penB_iff _).2 ⟨⟨c, d, e, f, g, i, j, k, hb.2, numP_fits hb.1, hs.1⟩, hd, ?_⟩)
  show (l.isEmpty || l.any fun n => decide (0 < n)) = true
  rcases hs.2 with a | a
  ·
   rw [List.eq_nil_of_length_eq_zero a]; rfl
  ·
   rw [sumL_I, sumI_sum] at a
   rw [b.2.2.1 oO, Bool.or_true]
 ·
  cases ho
theorem wholeW_ok {args : List PV} {n : Int} (h : wholeW args = .ok n) : 0 ≤ n ∧ n ≤ 2 := by
 unfold wholeW at h
 split at h
 ·
  split at h
  ·
   rename_i hq; cases h; exact hq.2
  ·
   cases h
 ·
  cases h
theorem pensV_snd {v v1 : Vw} {args : List PV} {op : List UInt8} (h : SndV v) (ho : pensV v args op = .ok v1) : SndV v1 := by
 unfold pensV at ho
 obtain ⟨⟨f, g, i, j, k, m, o, q, e, a, b⟩, c, d⟩ := (penB_iff _).1 h.s.pen
 split at ho
 ·
  obtain ⟨l, hl, ho⟩ := bindE ho
  obtain ⟨_, hw, ho⟩ := bindE ho
  have ho := pureE ho
  subst ho
  exact h.setPen ((penB_iff _).2 ⟨⟨dT (mustE hw), getD_fits (numsV_ok hl).2 0, i, j, k, m, o, q, e, a, b⟩, c, d⟩)
 ·
  split at ho
  ·
   obtain ⟨n, hn, ho⟩ := bindE ho
   have ho := pureE ho
   subst ho
   have hn := wholeW_ok hn
   exact h.setPen ((penB_iff _).2 ⟨⟨f, g, hn.1, hn.2, k, m, o, q, e, a, b⟩, c, d⟩)
  ·
   split at ho
   ·
    obtain ⟨n, hn, ho⟩ := bindE ho
    have ho := pureE ho
    subst ho
    have hn := wholeW_ok hn
    exact h.setPen ((penB_iff _).2 ⟨⟨f, g, i, j, hn.1, hn.2, o, q, e, a, b⟩, c, d⟩)
   ·
    split at ho
    ·
     obtain ⟨l, hl, ho⟩ := bindE ho
     obtain ⟨_, hw, ho⟩ := bindE ho
     have ho := pureE ho
     subst ho
     exact h.setPen ((penB_iff _).2 ⟨⟨f, g, i, j, k, m, dT (mustE hw), getD_fits (numsV_ok hl).2 0, e, a, b⟩, c, d⟩)
    ·
     exact dashV_snd h ho
end
section
theorem statesV_snd {v v1 : Vw} {args : List PV} {op : List UInt8} (h : SndV v) (ho : statesV v args op = .ok v1) : SndV v1 := by
 unfold statesV at ho
 split at ho
 ·
  obtain ⟨_, -, ho⟩ := bindE ho
  obtain ⟨_, -, ho⟩ := bindE ho
  have ho := pureE ho
  subst ho
  refine ⟨h.s, fun s hs => ?_, h.path, h.items⟩
  rcases List.mem_cons.1 hs with rfl | hs
  ·
   exact h.s
  ·
   exact h.saved s hs
 ·
  split at ho
  ·
   obtain ⟨_, -, ho⟩ := bindE ho
   split at ho
   ·
    cases ho
   ·
    rename_i s r hr
    have ho := pureE ho
    subst ho
    exact ⟨h.saved s (by rw [hr]; simp), fun x hx => h.saved x (by rw [hr]; simp [hx]), h.path, h.items⟩
  ·
   obtain ⟨_, -, ho⟩ := bindE ho
   obtain ⟨_, -, ho⟩ := bindE ho
   have ho := pureE ho
   subst ho
   exact h.setS ⟨h.s.fill, h.s.stroke, h.s.pen, h.s.clips, h.s.font⟩
theorem SndV.setPath {v : Vw} {p : PathP} (h : SndV v) (hp : SndP p) : SndV (setP v p) := ⟨h.s, h.saved, hp, h.items⟩
theorem drawV_snd {v v1 : Vw} {args : List PV} {op : List UInt8} (h : SndV v) (ho : drawV v args op = .ok v1) : SndV v1 := by
 unfold drawV at ho
 split at ho
 ·
  obtain ⟨_, -, ho⟩ := bindE ho
  obtain ⟨_, -, ho⟩ := bindE ho
  obtain ⟨p, hp, ho⟩ := bindE ho
  have ho := pureE ho
  subst ho
  rw [stepV_ok hp]; exact h.setPath h.path.move
 ·
  split at ho
  ·
   obtain ⟨_, -, ho⟩ := bindE ho
   obtain ⟨_, -, ho⟩ := bindE ho
   obtain ⟨p, hp, ho⟩ := bindE ho
   have ho := pureE ho
   subst ho
   rw [stepV_ok hp]; exact h.setPath h.path.line
  ·
   split at ho
   ·
    obtain ⟨_, -, ho⟩ := bindE ho
    obtain ⟨_, -, ho⟩ := bindE ho
    obtain ⟨p, hp, ho⟩ := bindE ho
    have ho := pureE ho
    subst ho
    rw [stepV_ok hp]; exact h.setPath h.path.curve
   ·
    split at ho
    ·
     obtain ⟨_, -, ho⟩ := bindE ho
     obtain ⟨_, -, ho⟩ := bindE ho
     obtain ⟨_, -, ho⟩ := bindE ho
     obtain ⟨p, hp, ho⟩ := bindE ho
     have ho := pureE ho
     subst ho
     rw [stepV_ok hp]; exact h.setPath h.path.curve
    ·
     split at ho
     ·
      obtain ⟨_, -, ho⟩ := bindE ho
      obtain ⟨_, -, ho⟩ := bindE ho
      obtain ⟨p, hp, ho⟩ := bindE ho
      have ho := pureE ho
      subst ho
      rw [stepV_ok hp]; exact h.setPath h.path.curve
     ·
      split at ho
      ·
       obtain ⟨_, -, ho⟩ := bindE ho
       exact closeV_snd h ho
      ·
       obtain ⟨_, -, ho⟩ := bindE ho
       obtain ⟨_, -, ho⟩ := bindE ho
       obtain ⟨_, -, ho⟩ := bindE ho
       obtain ⟨_, -, ho⟩ := bindE ho
       obtain ⟨f, a, ho⟩ := bindE ho
       obtain ⟨g, b, ho⟩ := bindE ho
       obtain ⟨i, c, ho⟩ := bindE ho
       obtain ⟨j, d, ho⟩ := bindE ho
       obtain ⟨o, e, ho⟩ := bindE ho
       have ho := pureE ho
       subst ho
       have k : SndP f := by rw [stepV_ok a]; exact h.path.move
       have l : SndP g := by rw [stepV_ok b]; exact k.line
       have m : SndP i := by rw [stepV_ok c]; exact l.line
       have n : SndP j := by rw [stepV_ok d]; exact m.line
       rw [stepV_ok e]; exact h.setPath n.close
theorem chooseV_snd {fs : List FtV} {v v1 : Vw} {args : List PV} (hf : ∀ f ∈ fs, 0 ≤ f.font ∧ f.font ≤ 13) (h : SndV v) (ho : chooseV fs v args = .ok v1) : SndV v1 := by
 unfold chooseV at ho
 split at ho
 ·
  obtain ⟨_, -, ho⟩ := bindE ho
  obtain ⟨_, -, ho⟩ := bindE ho
  split at ho
  ·
   cases ho
  ·
   rename_i f hq
   have ho := pureE ho
   subst ho
   have := hf f (List.mem_of_find?_eq_some hq)
   exact h.setS ⟨h.s.fill, h.s.stroke, h.s.pen, h.s.clips, by show -1 ≤ f.font ∧ f.font ≤ 13; omega⟩
 ·
  cases ho
theorem catV_ok {a b m : M6} (h : catV a b = .ok m) : (concatR a b).2 = 0 ∧ m = (concatR a b).1 := by
 unfold catV at h
 split at h
 ·
  cases h; exact ⟨by assumption, rfl⟩
 ·
  cases h
theorem lettersV_snd {sum : Int → List UInt8 → Int} {v v1 : Vw} {args : List PV} (ha : ∀ a ∈ args, (pvT a).length ≤ 65535) (h : SndV v) (ho : lettersV sum v args = .ok v1) : SndV v1 := by
 unfold lettersV at ho
 split at ho
 ·
  rename_i a
  obtain ⟨_, hw, ho⟩ := bindE ho
  have hw := mustE hw
  simp only [Bool.and_eq_true, decide_eq_true_eq] at hw
  split at ho
  ·
   cases ho; exact h
  ·
   rename_i hn
   unfold showV at ho
   obtain ⟨b, -, ho⟩ := bindE ho
   obtain ⟨m, hm, ho⟩ := bindE ho
   obtain ⟨c, hv, ho⟩ := bindE ho
   have ho := pureE ho
   subst ho
   obtain ⟨e, rfl⟩ := catV_ok hm
   have hl := ha a (by simp)
   have hp : 1 ≤ (pvT a).length := by
    cases hq : pvT a with
    | nil => exact ab_ hq hn
    | cons x r => simp
   have := (addV_snd h (text_snd (f := v.s.font) e h.s.fill h.s.clips ⟨hw.1.2, h.s.font.2⟩ ⟨hp, hl⟩) hv).1
   exact ⟨this.s, this.saved, this.path, this.items⟩
 ·
  cases ho
theorem textsV_snd {sum : Int → List UInt8 → Int} {fs : List FtV} {v v1 : Vw} {args : List PV} {op : List UInt8} (hf : ∀ f ∈ fs, 0 ≤ f.font ∧ f.font ≤ 13) (ha : ∀ a ∈ args, (pvT a).length ≤ 65535) (h : SndV v) (ho : textsV sum fs v args op = .ok v1) : SndV v1 := by
 unfold textsV at ho
 obtain ⟨_, -, ho⟩ := bindE ho
 split at ho
 ·
  obtain ⟨_, -, ho⟩ := bindE ho
  have ho := pureE ho
  subst ho
  exact ⟨h.s, h.saved, h.path, h.items⟩
 ·
  split at ho
  ·
   obtain ⟨_, -, ho⟩ := bindE ho
   have ho := pureE ho
   subst ho
   exact ⟨h.s, h.saved, h.path, h.items⟩
  ·
   split at ho
   ·
    exact chooseV_snd hf h ho
   ·
    split at ho
    ·
     obtain ⟨_, -, ho⟩ := bindE ho
     have ho := pureE ho
     subst ho
     exact ⟨h.s, h.saved, h.path, h.items⟩
    ·
     split at ho
     ·
      obtain ⟨_, -, ho⟩ := bindE ho
      obtain ⟨_, -, ho⟩ := bindE ho
      have ho := pureE ho
      subst ho
      exact ⟨h.s, h.saved, h.path, h.items⟩
     ·
      exact lettersV_snd ha h ho
theorem opV_snd {sum : Int → List UInt8 → Int} {fs : List FtV} {v v1 : Vw} {args : List PV} {op : List UInt8} (hf : ∀ f ∈ fs, 0 ≤ f.font ∧ f.font ≤ 13) (ha : ∀ a ∈ args, (pvT a).length ≤ 65535) (h : SndV v) (ho : opV sum fs v args op = .ok v1) : SndV v1 := by
 unfold opV at ho
 split at ho
 ·
  exact pensV_snd h ho
 ·
  split at ho
  ·
   exact colorsV_snd h ho
  ·
   split at ho
   ·
    exact textsV_snd hf ha h ho
   ·
    split at ho
    ·
     cases ho
    ·
     obtain ⟨_, -, ho⟩ := bindE ho
     split at ho
     ·
      exact statesV_snd h ho
     ·
      split at ho
      ·
       exact drawV_snd h ho
      ·
       split at ho
       ·
        obtain ⟨_, -, ho⟩ := bindE ho
        have ho := pureE ho
        subst ho
        exact ⟨h.s, h.saved, h.path, h.items⟩
       ·
        exact paintV_snd h ho
def vw0 : Vw := ⟨⟨m6I, col0 1, col0 1, ⟨65536, 0, 0, 655360, none, [], 0, 0⟩, [], -1, 0⟩, [], path0, 0, false, false, m60, m60, []⟩
theorem vw0_snd : SndV vw0 := ⟨⟨by decide, by decide, by decide, by decide, by decide⟩, fun s hs => (by cases hs), SndP.zero, fun x hx => (by cases hx)⟩
end
section
theorem fx_val {a b : Value} (h : a = b) : Ending.returned a = .returned b := by rw [h]
def pairI (x : Int × Int) : Value := .tuple #[.int .i64 x.1, .int .i64 x.2]
theorem fx_pair {a b : Int} {x : Int × Int} (h : x = (a, b)) : Ending.returned (.tuple #[.int .i64 a, .int .i64 b]) = .returned (pairI x) := by rw [h]; rfl
theorem fix_all (p : Option Addr) (l : List Int) (c : Nat) (w : World) (hr : RowAt intV w p l) (hl : l.length ≤ 9223372036854775807) :
  Calls Tryz.prog 140 #[.slice p l.length c] w fun e w' => e = .returned (.bool (l.all fitsB)) ∧ w = w' := by
 refine W.e func140 rfl ntmps140 bL ?_
 refine W.sr <| WL.Z rfl <| W.seq <| W.sr <| WL.M rfl <| WL.O (.lenS u39_ rfl) <| WL.M rfl <| WL.e <| W.b <| W.loop (α := Nat) (fun t => [(5, .slice p l.length c), (6, .int .i64 (l.length : Int)), (7, .int .i64 (t : Int))]) (fun t w' => w = w' ∧ t ≤ l.length ∧ ∀ j (h : j < l.length), j < t → fitsB l[j] = true) (fun t => l.length - t) (0) ⟨rfl, rfl, rfl, tT⟩ (⟨rfl, nl_ _, fun j _ h => ab_ h oO⟩) (fun t q hR => ?_)
 obtain ⟨i, rfl⟩ : ∃ i, i = t := ⟨t, rfl⟩
 obtain ⟨rfl, hi, a⟩ := hR
 refine W.sr <| WL.O (.lss rfl rfl) <| WL.e <| W.seq <| W.cond rfl (fun d => ?_) (fun d => ?_)
 have g := dT d
 refine W.k <| W.seq <| W.b <| W.sr <| WL.O (.ixb u39_ s3_ rfl rfl (hr.isp (by first | omega | exact nz_ _)) (i) (rfl) oO) <| WL.R (Rd.ldc (g3_ _) rfl (hr.cells (i) oO)) <| WL.Z rfl <| W.sr <| WL.M rfl <| WL.c1 hB_ rfl rfl ((fix_Fits _ _)) (fun s m => ?_)
 obtain rfl := m
 refine WL.O (.not rfl) <| WL.e <| W.cond rfl (fun f => ?_) (fun f => ?_)
 have n := (nT f)
 refine W.sr <| WL.Z rfl <| W.ret (W.r1 rfl rfl ?_)
 first
 | exact ⟨fx_val (congrArg _ (Eq.symm (List.all_eq_false.2 ⟨l[i]'oO, List.getElem_mem _, by simp_all⟩))), rfl⟩
 | exact ⟨fx_val (congrArg _ (Eq.symm (List.all_eq_true.2 fun x hx => by
   obtain ⟨j, hj, rfl⟩ := List.mem_iff_getElem.1 hx; exact a j hj oO))), rfl⟩
 have n := (nF f)
 refine W.k <| W.reg <| WL.O (.iis (((i + 1 : Nat) : Int)) (.add rfl rfl (i64w oO)) oO) <| WL.M rfl <| WL.e <| ?_
 exact ⟨i + 1, ⟨rfl, rfl, rfl, tT⟩, ⟨rfl, by ((try simp only) <;> omega), fun j h hj => by
  rcases Nat.lt_succ_iff_lt_or_eq.1 hj with o | rfl; exact a j h o
  simp_all⟩, by ((try simp only) <;> omega)⟩
 have g := dF d
 refine W.exit <| W.sr <| WL.Z rfl <| W.ret (W.r1 rfl rfl ?_)
 first
 | exact ⟨fx_val (congrArg _ (Eq.symm (List.all_eq_false.2 ⟨l[i]'oO, List.getElem_mem _, by simp_all⟩))), rfl⟩
 | exact ⟨fx_val (congrArg _ (Eq.symm (List.all_eq_true.2 fun x hx => by
   obtain ⟨j, hj, rfl⟩ := List.mem_iff_getElem.1 hx; exact a j hj oO))), rfl⟩
theorem fix_within (n : Int) (w : World) : Calls Tryz.prog 141 #[.int .i64 n] w fun e w' => e = .returned (pairI (withR n)) ∧ w = w' := by
 refine W.e func141 rfl ntmps141 bL ?_
 refine W.sr <| WL.A rfl <| WL.Z rfl <| W.seq <| W.sr <| WL.M rfl <| WL.c1 hB_ rfl rfl ((fix_Fits _ _)) (fun d b => ?_)
 obtain rfl := b
 refine WL.O (.not rfl) <| WL.e <| W.cond rfl (fun a => ?_) (fun a => ?_)
 have c := (nT a)
 refine W.sr <| WL.A rfl <| WL.Z rfl <| W.ret (W.ret2 rfl rfl rfl ?_)
 exact ⟨fx_pair (by unfold withR; rw [if_neg (by simp_all)]), rfl⟩
 have c := (nF a)
 refine W.k <| W.sr <| WL.M rfl <| WL.A rfl <| WL.Z rfl <| W.ret (W.ret2 rfl rfl rfl ?_)
 exact ⟨fx_pair (by unfold withR; rw [if_pos (by simp_all)]), rfl⟩
theorem fix_Add (a b : Int) (w : World) : Calls Tryz.prog 146 #[.int .i64 a, .int .i64 b] w fun e w' => e = .returned (pairI (addR a b)) ∧ Below w.heap.size w w' := by
 refine W.e func146 rfl ntmps146 bL ?_
 have c := br_ (w.heap.size) w
 refine W.sr <| WL.A rfl <| WL.Z rfl <| W.seq <| W.sr <| WL.M rfl <| WL.M rfl <| WL.bsl (ps := _) u39_ s3_ z3_ rfl rfl rfl rfl rfl pR rfl (fun x v d i j u => ?_)
 have f := uB c d j
 have t := bge d c.size
 have n := RowAt.lit (V := intV) (l := [a, b]) i (rfl)
 refine WL.c1 hB_ rfl rfl ((fix_all _ [a, b] 2 _ n (by simp))) (fun y o => ?_)
 obtain rfl := o
 refine WL.O (.not rfl) <| WL.e <| W.cond rfl (fun m => ?_) (fun m => ?_)
 have q := (nT m)
 refine W.sr <| WL.A rfl <| WL.Z rfl <| W.ret (W.ret2 rfl rfl rfl ?_)
 exact ⟨fx_pair (by unfold addR; rw [if_neg (by simp_all)]), f⟩
 have q := (nF m)
 have g : fitsB a = true ∧ fitsB b = true := by simp_all
 have B := fitsI g.1
 have C := fitsI g.2
 refine W.k <| W.sr <| WL.M rfl <| WL.M rfl <| WL.O (.add rfl rfl (i64w oO)) <| WL.c1 hB_ rfl rfl ((fix_within _ _)) (fun D s => ?_)
 obtain rfl := s
 refine WL.O (.ext rfl rfl) <| WL.O (.ext rfl rfl) <| WL.A rfl <| WL.Z rfl <| W.ret (W.ret2 rfl rfl rfl ?_)
 exact ⟨fx_val (by unfold addR; rw [if_pos (by simp_all)]; rfl), f⟩
theorem fix_Sub (a b : Int) (w : World) : Calls Tryz.prog 197 #[.int .i64 a, .int .i64 b] w fun e w' => e = .returned (pairI (subR a b)) ∧ Below w.heap.size w w' := by
 refine W.e func197 rfl ntmps197 bL ?_
 have c := br_ (w.heap.size) w
 refine W.sr <| WL.A rfl <| WL.Z rfl <| W.seq <| W.sr <| WL.M rfl <| WL.M rfl <| WL.bsl (ps := _) u39_ s3_ z3_ rfl rfl rfl rfl rfl pR rfl (fun x v d i j u => ?_)
 have f := uB c d j
 have t := bge d c.size
 have n := RowAt.lit (V := intV) (l := [a, b]) i (rfl)
 refine WL.c1 hB_ rfl rfl ((fix_all _ [a, b] 2 _ n (by simp))) (fun y o => ?_)
 obtain rfl := o
 refine WL.O (.not rfl) <| WL.e <| W.cond rfl (fun m => ?_) (fun m => ?_)
 have q := (nT m)
 refine W.sr <| WL.A rfl <| WL.Z rfl <| W.ret (W.ret2 rfl rfl rfl ?_)
 exact ⟨fx_pair (by unfold subR; rw [if_neg (by simp_all)]), f⟩
 have q := (nF m)
 have g : fitsB a = true ∧ fitsB b = true := by simp_all
 have B := fitsI g.1
 have C := fitsI g.2
 refine W.k <| W.sr <| WL.M rfl <| WL.M rfl <| WL.O (.sub rfl rfl (i64w oO)) <| WL.c1 hB_ rfl rfl ((fix_within _ _)) (fun D s => ?_)
 obtain rfl := s
 refine WL.O (.ext rfl rfl) <| WL.O (.ext rfl rfl) <| WL.A rfl <| WL.Z rfl <| W.ret (W.ret2 rfl rfl rfl ?_)
 exact ⟨fx_val (by unfold subR; rw [if_pos (by simp_all)]; rfl), f⟩
theorem fix_over (a b : Int) (w : World) (ha : -4611686018427387904 ≤ a ∧ a ≤ 4611686018427387904) (hb : 0 < b ∧ b ≤ 2147483648) :
  Calls Tryz.prog 142 #[.int .i64 a, .int .i64 b] w fun e w' => e = .returned (.int .i64 (overI a b)) ∧ Below w.heap.size w w' := by
 have m := Int.mul_tdiv_add_tmod a b
 have n := Int.tmod_lt_of_pos a hb.1
 have d := Int.lt_tmod_of_pos a hb.1
 have f : -4611686018427387904 ≤ a.tdiv b ∧ a.tdiv b ≤ 4611686018427387904 := by
  have := Int.natAbs_tdiv_le_natAbs a b
  omega
 refine W.e func142 rfl ntmps142 bL ?_
 have g := br_ (w.heap.size) w
 refine W.sr <| WL.Z rfl <| W.seq <| W.sr <| WL.M rfl <| WL.O (.bis (false) (.lss rfl rfl) (by exact decide_eq_false oO)) <| WL.e <| W.condF rfl rfl <| W.k <| W.seq <| W.regQ mixed kR <| WQ.p (.mv rfl) rfl <| WQ.p (.mv rfl) rfl <| WQ.p (.quo rfl rfl oO (i64w oO)) rfl <| WQ.p (.mv rfl) rfl <| WQ.p (.mv rfl) rfl <| WQ.p (.rem rfl rfl oO rfl) rfl <| WQ.p (.as rfl) rfl <| WQ.p (.as rfl) rfl <| WQ.nil (fun o i => ?_)
 have c := Drew.below g i
 refine W.seq <| W.b <| W.sr <| WL.M rfl <| WL.O (.mul rfl rfl (i64w oO)) <| WL.M rfl <| WL.O (.geq rfl rfl) <| WL.Z rfl <| W.cond rfl (fun d => ?_) (fun d => ?_)
 have j := dT d
 refine W.reg <| WL.M rfl <| WL.O (.add rfl rfl (i64w oO)) <| WL.Z rfl <| W.sr <| WL.M rfl <| WL.Z rfl <| W.ret (W.r1 rfl rfl ?_)
 exact ⟨fx_val (by unfold overI; first | rw [if_pos oO] | rw [if_neg oO, if_pos oO] | rw [if_neg oO, if_neg oO]), c⟩
 have j := dF d
 refine W.sr <| WL.M rfl <| WL.O (.mul rfl rfl (i64w oO)) <| WL.M rfl <| WL.O (.geq rfl rfl) <| WL.Z rfl <| W.cond rfl (fun f => ?_) (fun f => ?_)
 have l := dT f
 refine W.reg <| WL.M rfl <| WL.O (.sub rfl rfl (i64w oO)) <| WL.Z rfl <| W.sr <| WL.M rfl <| WL.Z rfl <| W.ret (W.r1 rfl rfl ?_)
 exact ⟨fx_val (by unfold overI; first | rw [if_pos oO] | rw [if_neg oO, if_pos oO] | rw [if_neg oO, if_neg oO]), c⟩
 have l := dF f
 refine W.k <| W.sr <| WL.M rfl <| WL.Z rfl <| W.ret (W.r1 rfl rfl ?_)
 exact ⟨fx_val (by unfold overI; first | rw [if_pos oO] | rw [if_neg oO, if_pos oO] | rw [if_neg oO, if_neg oO]), c⟩
end
section
open Go.RowKit Go.WideShapes Go.ChangeShapes
structure Only (o : Option Nat) (w w1 : World) : Prop where
 os : w1.os = w.os
 tape : w1.tape = w.tape
 output : w1.output = w.output
 size : w1.heap.size = w.heap.size
 block : ∀ k, o ≠ some k → w1.heap[k]? = w.heap[k]?
theorem Blk.grown {w w1 : World} {c : Nat} {row : Option Nat} {cs : Array Value} {t : TypeId} (h : Blk w c cs t) (hg : w.grownBy w1 row) (hc : row ≠ some c) : Blk w1 c cs t := (hg.block c h.lt fun e => hc e.symm).trans h
theorem OwnM.cutc {α : Type} {L : Lay α} {e : TypeId} {B : Nat} {w : World} {p : Option Addr} {n c : Nat} {l : List α} (h : OwnM L e B w (.slice p n c) l) (k : Nat) (hk : k ≤ l.length) : OwnM L e B w (.slice p k c) (l.take k) := by
 rcases h with ⟨d, rfl⟩ | ⟨g, cap, cur, d, hB, hg, j, f, i, b⟩
 ·
  cases d
  obtain rfl : k = 0 := by simpa using hk
  exact .inl ⟨rfl, by simp⟩
 ·
  cases d
  have a : (l.take k).length = k := by rw [List.length_take]; omega
  refine .inr ⟨g, c, cur, by rw [a], hB, hg, by rw [a]; omega, f, i, ?_⟩
  rw [a, ← L.flat_take, ← b, List.take_take, Nat.min_eq_left (Nat.mul_le_mul_right _ hk)]
theorem KeepB.wide {B B' : Nat} {S S' : List Nat} {a b : World} (h : KeepB B' S a b) (hB : B ≤ B') (hS : ∀ g ∈ S, g ∈ S' ∨ B ≤ g) : KeepB B S' a b := ⟨h.os, h.tape, h.output, h.size, fun i hi hn => h.block i oO fun hm => (hS i hm).elim hn fun q => by omega⟩
end
section
section
variable {P : Program} {n : Sh} {f : Fr}
theorem WL.stC {ops : Array Oper} {Q : Exit → Fr → World → Prop} {w : World} {rest : List Oper} {ty : Nat} {pos : String} {aft : Array Edge} {t tb : TypeId} {x y : Operand} {p : Addr} {b o : Nat} {cs : Array Value} {v : Value} (new : Array Value)
  (hs : ∀ w, (sizeOf t).run P w = .ok 1 w) (hx : evo f x = some (.pointer (some p))) (hp : p = ⟨b, o, none⟩) (hy : evo f y = some v) (h1 : v.oneCell' = true) (hb : Blk w b cs tb) (ho : o < cs.size) (hn : cs.setIfInBounds o v = new)
  (k : ∀ w1, Blk w1 b new tb → Upd b w w1 → w1.heap.size = w.heap.size → WL P n ops Q rest f w1) : WL P n ops Q (⟨none, .store t x y, ty, pos, aft, none⟩ :: rest) f w := by
 subst hp
 exact WL.st hs hx hy h1 hb ho fun w1 hk hu a => k w1 (hn ▸ hk) hu a
theorem WL.stB {ops : Array Oper} {Q : Exit → Fr → World → Prop} {w : World} {rest : List Oper} {ty : Nat} {pos : String} {aft : Array Edge} {t tb : TypeId} {x y : Operand} {p : Addr} {b o : Nat} {cs : Array Value} {vs : List Value} (new : Array Value)
  (hx : evo f x = some (.pointer (some p))) (hp : p = ⟨b, o, none⟩) (hy : evo f y = some (.agg vs.toArray)) (hb : Blk w b cs tb) (hi : (P.info? t).map (·.size) = some vs.length) (h1 : ones vs = true) (ho : o + vs.length ≤ cs.size) (hn : (cs.toList.take o ++ vs ++ cs.toList.drop (o + vs.length)).toArray = new)
  (k : ∀ w1, Blk w1 b new tb → Upd b w w1 → w1.heap.size = w.heap.size → WL P n ops Q rest f w1) : WL P n ops Q (⟨none, .store t x y, ty, pos, aft, none⟩ :: rest) f w := by
 subst hp
 have a := run_storeCells_at P b o tb vs 0 cs w hb oO (ones_mem h1)
 simp only [Nat.add_zero] at a
 have c := hb.lt
 refine WL.act (w' := w.setRow b (cs.toList.take o ++ vs ++ cs.toList.drop (o + vs.length)).toArray) (fun ρ hρ => ?_)
  (k _ (hn ▸ setRow_heap w b cs _ tb _ hb) (Upd.setRow _ _ _) (by simp [World.setRow]))
 cases hq : P.info? t with
 | none => simp [hq] at hi
 | some i =>
  have hs : i.size = vs.length := by simpa [hq] using hi
  unfold execOp; simp [hρ _ _ hx, hρ _ _ hy, Instr.storeAt, Instr.sureAddr, storeVar, Sem.run_bind, sizeOf, typeInfo, hq, hs, Value.cells, a]
end
end
section
theorem fix_Mul (a b : Int) (w : World) : Calls Tryz.prog 103 #[.int .i64 a, .int .i64 b] w fun e w' => e = .returned (pairI (mulR a b)) ∧ Below w.heap.size w w' := by
 refine W.e func103 rfl ntmps103 bL ?_
 have c := br_ (w.heap.size) w
 refine W.sr <| WL.A rfl <| WL.Z rfl <| W.seq <| W.sr <| WL.M rfl <| WL.M rfl <| WL.bsl (ps := _) u39_ s3_ z3_ rfl rfl rfl rfl rfl pR rfl (fun C B d i j y => ?_)
 have f := uB c d j
 have x := bge d c.size
 have n := RowAt.lit (V := intV) (l := [a, b]) i (rfl)
 refine WL.c1 hB_ rfl rfl ((fix_all _ [a, b] 2 _ n (by simp))) (fun D o => ?_)
 obtain rfl := o
 refine WL.O (.not rfl) <| WL.e <| W.cond rfl (fun m => ?_) (fun m => ?_)
 have q := (nT m)
 refine W.sr <| WL.A rfl <| WL.Z rfl <| W.ret (W.ret2 rfl rfl rfl ?_)
 exact ⟨fx_pair (by unfold mulR; rw [if_neg (by simp_all)]), f⟩
 have q := (nF m)
 have g : fitsB a = true ∧ fitsB b = true := by simp_all
 have s := mul_range g.1 g.2
 have E := over_le s
 refine W.k <| W.sr <| WL.M rfl <| WL.M rfl <| WL.O (.mul rfl rfl (i64w oO)) <| WL.c1 hB_ rfl rfl ((fix_over _ _ _ s dD)) (fun F t => ?_)
 have u := btr f t
 refine WL.c1 hB_ rfl rfl ((fix_within _ _)) (fun G v => ?_)
 obtain rfl := v
 refine WL.O (.ext rfl rfl) <| WL.O (.ext rfl rfl) <| WL.A rfl <| WL.Z rfl <| W.ret (W.ret2 rfl rfl rfl ?_)
 exact ⟨fx_val (by unfold mulR; rw [if_pos (by simp_all)]; rfl), u⟩
theorem fix_Sum (p : Option Addr) (l : List Int) (c : Nat) (w : World) (hr : RowAt intV w p l) (hl : l.length ≤ 9223372036854775807) :
  Calls Tryz.prog 205 #[.slice p l.length c] w fun e w' => e = .returned (pairI (sumR 0 l)) ∧ Below w.heap.size w w' := by
 have C := hr.lt
 refine W.e func205 rfl ntmps205 bL ?_
 have o := br_ (w.heap.size) w
 refine W.sr <| WL.A rfl <| WL.Z rfl <| W.sr <| WL.Z rfl <| W.seq <| W.sr <| WL.M rfl <| WL.O (.lenS u39_ rfl) <| WL.M rfl <| WL.e <| W.b <| W.loop (α := Nat × Int) (fun t => [(4, .int .i64 t.2), (8, .slice p l.length c), (9, .int .i64 (l.length : Int)), (10, .int .i64 (t.1 : Int))]) (fun t w' => Below w.heap.size w w' ∧ RowAt intV w' p l ∧ t.1 ≤ l.length ∧ sumR t.2 (l.drop t.1) = sumR 0 l) (fun t => l.length - t.1) ((0, 0)) ⟨rfl, rfl, rfl, rfl, tT⟩ (⟨o, hr, nl_ _, rfl⟩) (fun t F hR => ?_)
 obtain ⟨⟨i, s⟩, q⟩ : ∃ i, i = t := ⟨t, rfl⟩
 subst q
 obtain ⟨u, a, D, d⟩ := hR
 simp only at D d
 refine W.sr <| WL.O (.lss rfl rfl) <| WL.e <| W.seq <| W.cond rfl (fun m => ?_) (fun m => ?_)
 have v := dT m
 have x : i < l.length := by omega
 have f : sumR s (l.drop i) = if (addR s l[i]).2 = 0 then sumR (addR s l[i]).1 (l.drop (i + 1)) else (0, (addR s l[i]).2) := by rw [List.drop_eq_getElem_cons x, sumR]
 refine W.k <| W.seq <| W.b <| W.sr <| WL.O (.ixb u39_ s3_ rfl rfl (a.isp (by first | omega | exact nz_ _)) (i) (rfl) oO) <| WL.R (Rd.ldc (g3_ _) rfl (a.cells (i) oO)) <| WL.Z rfl <| W.sr <| WL.Z rfl <| W.sr <| WL.M rfl <| WL.M rfl <| WL.c1 hB_ rfl rfl ((fix_Add _ _ _)) (fun G g => ?_)
 have y := RowAt.below a g (fun E => a.lt E)
 have j := btr u g
 refine WL.M rfl <| WL.O (.ext rfl rfl) <| WL.O (.ext rfl rfl) <| WL.A rfl <| WL.Z rfl <| W.sr <| WL.M rfl <| WL.O (.neq rfl rfl) <| WL.e <| W.cond rfl (fun n => ?_) (fun n => ?_)
 have B := ndT n
 refine W.sr <| WL.M rfl <| WL.A rfl <| WL.Z rfl <| W.ret (W.ret2 rfl rfl rfl ?_)
 exact ⟨fx_pair (by rw [← d, f, if_neg aS]), j⟩
 have B := ndF n
 refine W.k <| W.reg <| WL.O (.iis (((i + 1 : Nat) : Int)) (.add rfl rfl (i64w oO)) oO) <| WL.M rfl <| WL.e <| ?_
 exact ⟨(i + 1, (addR s l[i]).1), ⟨rfl, rfl, rfl, rfl, tT⟩, ⟨j, y, by ((try simp only) <;> omega), by rw [← d, f, if_pos aS]⟩, by ((try simp only) <;> omega)⟩
 have v := dF m
 refine W.exit <| W.sr <| WL.M rfl <| WL.A rfl <| WL.Z rfl <| W.ret (W.ret2 rfl rfl rfl ?_)
 exact ⟨fx_pair (by rw [← d, List.drop_eq_nil_of_le oO]; rfl), u⟩
def stC (e : Int) : Array Value := #[.int .i64 e]
theorem mat_took (bs_ : Nat) (s n e : Int) (w : World) (h : Blk w bs_ (stC s) 216) :
  Calls Tryz.prog 174 #[.pointer (some ⟨bs_, 0, none⟩), .int .i64 n, .int .i64 e] w fun r w' => r = .returned (.int .i64 n) ∧ KeepB w.heap.size [bs_] w w' ∧ Blk w' bs_ (stC (tookE s e)) 216 := by
 refine W.e func174 rfl ntmps174 bL ?_
 have c := KeepB.refl w.heap.size ([bs_]) w
 refine W.sr <| WL.Z rfl <| W.seq <| W.sr <| WL.M rfl <| WL.O (.nck rfl) <| WL.O (.fa u216_ rfl s30_ dD rfl) <| WL.R (Rd.ld (g30_ _) rfl h rfl) <| WL.O (.eql rfl rfl) <| WL.e <| W.cond rfl (fun f => ?_) (fun f => ?_)
 have g := dT f
 refine W.reg <| WL.M rfl <| WL.M rfl <| WL.O (.nck rfl) <| WL.O (.fa u216_ rfl s30_ dD rfl) <| WL.stC (o := 0) (stC e) s30_ rfl (rfl) rfl (rfl) h bL (rfl) (fun i a b j => ?_)
 have a : Blk i bs_ _ _ := a
 have b : Upd bs_ _ _ := b
 have d := kU c b
 refine WL.e <| W.sr <| WL.M rfl <| WL.Z rfl <| W.ret (W.r1 rfl rfl ?_)
 first
 | exact ⟨rfl, d, by unfold tookE; rw [if_pos aS]; exact a⟩
 | exact ⟨rfl, d, by unfold tookE; rw [if_neg aS]; exact a⟩
 have g := dF f
 refine W.k <| W.sr <| WL.M rfl <| WL.Z rfl <| W.ret (W.r1 rfl rfl ?_)
 first
 | exact ⟨rfl, c, by unfold tookE; rw [if_pos aS]; exact h⟩
 | exact ⟨rfl, c, by unfold tookE; rw [if_neg aS]; exact h⟩
theorem mat_mul (bs_ : Nat) (s a b : Int) (w : World) (h : Blk w bs_ (stC s) 216) :
  Calls Tryz.prog 195 #[.pointer (some ⟨bs_, 0, none⟩), .int .i64 a, .int .i64 b] w fun r w' => r = .returned (.int .i64 (mulR a b).1) ∧ KeepB w.heap.size [bs_] w w' ∧ Blk w' bs_ (stC (tookE s (mulR a b).2)) 216 := by
 refine W.e func195 rfl ntmps195 bL ?_
 have g := KeepB.refl w.heap.size ([bs_]) w
 refine W.sr <| WL.Z rfl <| W.sr <| WL.M rfl <| WL.M rfl <| WL.M rfl <| WL.c1 hB_ rfl rfl ((fix_Mul _ _ _)) (fun l c => ?_)
 have i := h.bl c
 have d := kB g c
 refine WL.O (.ext rfl rfl) <| WL.O (.ext rfl rfl) <| WL.c1 hB_ rfl rfl ((mat_took bs_ s _ _ _ i)) (fun m f => ?_)
 have j := kt_ d (KeepB.wide f.1 d.size (by simp <;> omega))
 have k := f.2
 refine WL.Z rfl <| W.ret (W.r1 rfl rfl ?_)
 exact ⟨rfl, j, k⟩
theorem mat_sub (bs_ : Nat) (s a b : Int) (w : World) (h : Blk w bs_ (stC s) 216) :
  Calls Tryz.prog 173 #[.pointer (some ⟨bs_, 0, none⟩), .int .i64 a, .int .i64 b] w fun r w' => r = .returned (.int .i64 (subR a b).1) ∧ KeepB w.heap.size [bs_] w w' ∧ Blk w' bs_ (stC (tookE s (subR a b).2)) 216 := by
 refine W.e func173 rfl ntmps173 bL ?_
 have g := KeepB.refl w.heap.size ([bs_]) w
 refine W.sr <| WL.Z rfl <| W.sr <| WL.M rfl <| WL.M rfl <| WL.M rfl <| WL.c1 hB_ rfl rfl ((fix_Sub _ _ _)) (fun l c => ?_)
 have i := h.bl c
 have d := kB g c
 refine WL.O (.ext rfl rfl) <| WL.O (.ext rfl rfl) <| WL.c1 hB_ rfl rfl ((mat_took bs_ s _ _ _ i)) (fun m f => ?_)
 have j := kt_ d (KeepB.wide f.1 d.size (by simp <;> omega))
 have k := f.2
 refine WL.Z rfl <| W.ret (W.r1 rfl rfl ?_)
 exact ⟨rfl, j, k⟩
theorem mat_sum (bs_ : Nat) (s : Int) (p : Option Addr) (l : List Int) (c : Nat) (w : World) (h : Blk w bs_ (stC s) 216) (hr : RowAt intV w p l) (hl : l.length ≤ 9223372036854775807) :
  Calls Tryz.prog 196 #[.pointer (some ⟨bs_, 0, none⟩), .slice p l.length c] w fun r w' => r = .returned (.int .i64 (sumR 0 l).1) ∧ KeepB w.heap.size [bs_] w w' ∧ Blk w' bs_ (stC (tookE s (sumR 0 l).2)) 216 := by
 refine W.e func196 rfl ntmps196 bL ?_
 have f := KeepB.refl w.heap.size ([bs_]) w
 refine W.sr <| WL.Z rfl <| W.sr <| WL.M rfl <| WL.M rfl <| WL.c1 hB_ rfl rfl ((fix_Sum p l c _ hr hl)) (fun k a => ?_)
 have g := h.bl a
 have b := kB f a
 refine WL.O (.ext rfl rfl) <| WL.O (.ext rfl rfl) <| WL.c1 hB_ rfl rfl ((mat_took bs_ s _ _ _ g)) (fun m d => ?_)
 have i := kt_ b (KeepB.wide d.1 b.size (by simp <;> omega))
 have j := d.2
 refine WL.Z rfl <| W.ret (W.r1 rfl rfl ?_)
 exact ⟨rfl, i, j⟩
def ivL : Lay Int := ⟨1, fun n => [.int .i64 n], by decide, fun _ => rfl, fun x u hu => by simp only [List.mem_singleton] at hu; subst hu; rfl⟩
theorem ivL_flat (l : List Int) : ivL.flat l = l.map intV := by
 unfold Lay.flat
 induction l with
 | nil => rfl
 | cons a r ih => rw [List.flatMap_cons, ih]; rfl
theorem OwnM.ofI {e : TypeId} {B : Nat} {w : World} {v : Value} {l : List Int} (h : Own e B w v (l.map intV)) : OwnM ivL e B w v l := by
 have hl : (l.map intV).length = l.length := List.length_map _
 refine OwnM.of ?_
 rw [ivL_flat, ← hl]; exact h
theorem RowM.ofI {w : World} {p : Option Addr} {l : List Int} (h : RowM ivL w p l) : RowAt intV w p l := ⟨h.isp, fun j hj => by
 have := h.cells j hj 0 dD
 rw [show j * ivL.m + 0 = j by show j * 1 + 0 = j; omega] at this
 exact this⟩
theorem inf3 : (Tryz.prog.info? 3).map (fun i => (i.zero, i.size, i.bytes)) = some (some (.int .i64 0), 1, 8) := by kernel_rfl
theorem mat_two (bs_ : Nat) (s a x c y : Int) (p : Option Addr) (l : List Int) (cl : Nat) (w : World) (h : Blk w bs_ (stC s) 216) (hr : RowM ivL w p l) (hl : l.length ≤ 1000) (hcl : l = [] → cl = 0 ∨ p ≠ none) (hpb : 0 < l.length → (pA p).block ≠ bs_) :
  Calls Tryz.prog 168 #[.pointer (some ⟨bs_, 0, none⟩), .int .i64 a, .int .i64 x, .int .i64 c, .int .i64 y, .slice p l.length cl] w fun r w' => r = .returned (.int .i64 (twoR s a x c y l).1) ∧ KeepB w.heap.size [bs_] w w' ∧ Blk w' bs_ (stC (twoR s a x c y l).2) 216 := by
 refine W.e func168 rfl ntmps168 bL ?_
 have G := KeepB.refl w.heap.size ([bs_]) w
 refine W.sr <| WL.Z rfl <| W.sr <| WL.M rfl <| WL.M rfl <| WL.M rfl <| WL.c1 hB_ rfl rfl ((mat_mul bs_ s a x _ h)) (fun w1 k => ?_)
 have n := rk_ hr k.1 (fun b => ⟨hr.lt b, by first | simpa using (hpb) b | (have q := (hpb) b; have q1 := hr.lt b; simp only [List.mem_cons, List.not_mem_nil, or_false, not_or, not_false_eq_true]; omega)⟩)
 have H := kt_ G (KeepB.wide k.1 G.size (by simp <;> omega))
 have T := k.2
 refine WL.M rfl <| WL.M rfl <| WL.M rfl <| WL.c1 hB_ rfl rfl ((mat_mul bs_ _ c y _ T)) (fun w4 o => ?_)
 have J := rk_ n o.1 (fun b => ⟨n.lt b, by first | simpa using (hpb) b | (have q := (hpb) b; have q1 := n.lt b; simp only [List.mem_cons, List.not_mem_nil, or_false, not_or, not_false_eq_true]; omega)⟩)
 have K := kt_ H (KeepB.wide o.1 H.size (by simp <;> omega))
 have L := o.2
 refine WL.bsl (ps := _) u39_ s3_ z3_ rfl rfl rfl rfl rfl pR rfl (fun b7 U t N d a2 => ?_)
 have V := bgl t L.lt
 have X := L.un d V
 have A := fun b => t ▸ J.lt b
 have O := RowM.upd J d (fun b => nn_ (A b))
 have B := bge t K.size
 have u := kt_ K (kn_ d B)
 have P := Own.lit (m := 2) N rfl (by unfold maxLen; omega)
 have i : b7 ≤ U.heap.size := by omega
 have C := OwnM.ofI (l := [(mulR a x).1, (mulR c y).1]) P
 refine WL.Z rfl <| W.sr <| WL.M rfl <| WL.M rfl <| WL.M rfl <| WL.appM u39_ inf3 rfl rfl rfl C rfl O (by simp only [List.length_cons, List.length_nil]; omega) (i) rfl (hcl) (fun a3 a4 D j E a0 => ?_)
 have Q := X.below j oO
 have v := kt_ u (KeepB.of_grown E (fun g hg => .inr (by cases hg; omega)) u.size)
 have F := nt_ i j.size
 obtain ⟨p6, c6, e6, h6, -⟩ := (D).row
 subst e6
 refine WL.c1 hB_ rfl rfl ((mat_sum bs_ _ _ _ _ _ Q h6.ofI (by rw [List.length_append]; simp only [List.length_cons, List.length_nil]; omega))) (fun a5 f => ?_)
 have a1 := nt_ F f.1.size
 have R := kt_ v (KeepB.wide f.1 v.size (by simp <;> omega))
 have Y := f.2
 refine WL.Z rfl <| W.ret (W.r1 rfl rfl ?_)
 exact ⟨rfl, R, Y⟩
end
section
open Go.RowKit Go.WideShapes Go.ChangeShapes
def WH (P : Program) (n : Sh) (ops : Array Oper) (Q : Exit → Fr → World → Prop) (S : World → Prop) (fuel : Nat) (listed : Array Bool) (f : Fr) (w : World) : Prop := ∀ a, Rep n f a → wpAnyH P .any ops (lift n Q) S fuel listed a w
def dropS (d : Nat) : Fr → Fr
 | [] => []
 | (i, v) :: f => bif Nat.beq i d then dropS d f else (i, v) :: dropS d f
theorem look_dropS {d i : Nat} : ∀ (f : Fr), look (dropS d f) i = if i = d then none else look f i
 | [] => by simp [dropS, look]
 | (j, v) :: f => by
  have ih := look_dropS (d := d) (i := i) f
  unfold dropS
  cases h : Nat.beq j d with
  | true =>
   obtain rfl : j = d := Nat.eq_of_beq_eq_true h
   rw [cond_true, ih]
   by_cases hi : i = j
   ·
    rw [if_pos hi, if_pos hi]
   ·
    have hb : Nat.beq j i = false := by
     cases hq : Nat.beq j i with
     | true => exact ab_ (Nat.eq_of_beq_eq_true hq).symm hi
     | false => rfl
    rw [if_neg hi, if_neg hi]
    show look f i = (bif Nat.beq j i then some v else look f i)
    rw [hb, cond_false]
  | false =>
   rw [cond_false]
   show (bif Nat.beq j i then some v else look (dropS d f) i) = if i = d then none else (bif Nat.beq j i then some v else look f i)
   cases hb : Nat.beq j i with
   | true =>
    obtain rfl : j = i := Nat.eq_of_beq_eq_true hb
    have a : j ≠ d := fun q => by rw [q, Nat.beq_refl] at h; cases h
    rw [cond_true, cond_true, if_neg a]
   | false => rw [cond_false, cond_false, ih]
theorem Rep.dropS {n : Sh} {g : Fr} {a : Act} {d : Nat} {v : Value} (h : Rep n g (a.put (some d) v)) (_ : Nat.blt d n.n = true) : Rep n (dropS d g) a := by
 refine ⟨h.1, by simpa [Act.put] using h.2.1, fun i u hu => ?_⟩
 rw [look_dropS] at hu
 by_cases hi : i = d
 ·
  rw [if_pos hi] at hu; cases hu
 ·
  rw [if_neg hi] at hu
  have := h.2.2 i u hu
  simp only [Act.put, Array.getD_eq_getD_getElem?] at this ⊢
  rwa [Array.getElem?_setIfInBounds_ne (fun q => hi q.symm)] at this
def PnK (g0 : Fr) (Q : Exit → Fr → World → Prop) : Exit → Fr → World → Prop
 | .panic c, f, w => Sub g0 f ∧ Q (.panic c) g0 w
 | e, f, w => Q e f w
section
variable {P : Program} {n : Sh} {f : Fr} {ops : Array Oper} {Q : Exit → Fr → World → Prop} {w : World} {fuel : Nat} {listed : Array Bool} {S : World → Prop}
theorem W.regH {id : Nat} {l : List Oper} (N : Nat) (hN : l.length = N) (hm : P.follows .mixedOrders = true) (S : World → Prop) (h : ∀ w1, Drew w w1 → WH P n l.toArray Q S N (Array.replicate N false) f w1) : W P n (.region id l.toArray true) Q f w := by
 unfold W
 exact fun a ha => wp_region_held (S := S) hm (by
  subst hN
  have := h (w.drewN 1) ⟨1, rfl⟩ a ha
  rw [show l.toArray.size = l.length by simp]
  exact this)
theorem WH.tk (i : Nat) {d ty : Nat} {pos : String} {aft : Array Edge} {op : Op} {v : Value} (hi : ops[i]? = some ⟨some d, op, ty, pos, aft, none⟩) (hp : ∀ w', S w' → Rd P op f w' v) (hS : S w) (hd : Nat.blt d n.n = true)
  (k : WH P n ops Q S fuel (listed.setIfInBounds i true) ((d, v) :: f) w) (hs : Region.noSelect ops = true := by kernel_rfl) (hf : Region.free .any ops listed i = true := by kernel_rfl)
  (hr : (Region.ready .any ops listed).contains i = true := by kernel_rfl) (hQ : ∀ c f w, Q (.panic c) f w → Q (.panic c) (dropS d f) w := by first | exact fun c f w h => pn_post h | exact fun c f w h => h | exact fun c f w h => pnK_drop rfl h) : WH P n ops Q S (fuel + 1) listed f w := by
 intro a ha
 refine wpAnyH_take hi hs hf hr ?_ (.inl ⟨by simp [Region.wanted], fun w' hw' => hp w' hw' _ ha.agr _ _ _ _ _⟩) hS (k _ (ha.put hd v))
 rintro c b w' ⟨g, hg, hq⟩
 exact ⟨dropS d g, hg.dropS hd, hQ c g w' hq⟩
theorem WH.tp (i : Nat) {d ty : Nat} {pos : String} {aft : Array Edge} {op : Op} {v : Value} (hi : ops[i]? = some ⟨some d, op, ty, pos, aft, none⟩) (hp : Pure P op f v) (hS : S w) (hd : Nat.blt d n.n = true)
  (k : WH P n ops Q S fuel (listed.setIfInBounds i true) ((d, v) :: f) w) (hs : Region.noSelect ops = true := by kernel_rfl) (hf : Region.free .any ops listed i = true := by kernel_rfl)
  (hr : (Region.ready .any ops listed).contains i = true := by kernel_rfl) (hQ : ∀ c f w, Q (.panic c) f w → Q (.panic c) (dropS d f) w := by first | exact fun c f w h => pn_post h | exact fun c f w h => h | exact fun c f w h => pnK_drop rfl h) : WH P n ops Q S (fuel + 1) listed f w :=
 WH.tk i hi (fun _ _ => hp.rd) hS hd k hs hf hr hQ
theorem WH.op (j : Nat) {o : Oper} (hi : ops[j]? = some o) (h : WL P n ops (nx (fun f' w' => S w' ∧ WH P n ops Q S fuel (listed.setIfInBounds j true) f' w') Q) [o] f w) (a : Act) (ha : Rep n f a) :
  wpOp P ops (lift n Q) j (fun a' w' => S w' ∧ wpAnyH P .any ops (lift n Q) S fuel (listed.setIfInBounds j true) a' w') a w := by
 unfold WL at h
 have := h a ha
 unfold wpOp
 simp only [hi]
 have conv : ∀ (e : Exit) (a : Act) (w : World), lift n (nx (fun f' w' => S w' ∧ WH P n ops Q S fuel (listed.setIfInBounds j true) f' w') Q) e a w → Exit.then (fun a' w' => S w' ∧ wpAnyH P .any ops (lift n Q) S fuel (listed.setIfInBounds j true) a' w') (lift n Q) e a w := by
  rintro e a w ⟨g, hg, hq⟩
  cases e with
  | normal => exact ⟨hq.1, hq.2 a hg⟩
  | _ => exact ⟨g, hg, hq⟩
 unfold wpList at this
 split
 ·
  next hwt =>
  rw [if_pos hwt] at this
  refine this.imp (fun h => ?_) fun ⟨b, a', w', c⟩ => ⟨b, a', w', conv _ _ _ c⟩
  have h' : o.wp P a w (fun a' w' => S w' ∧ wpAnyH P .any ops (lift n Q) S fuel (listed.setIfInBounds j true) a' w') (lift n (nx (fun f' w' => S w' ∧ WH P n ops Q S fuel (listed.setIfInBounds j true) f' w') Q)) :=
   Oper.wp_mono (fun a w h => conv .normal a w h) h
  exact upon_post h' fun e a w he h => by
   cases e with
   | normal => exact ab_ rfl he
   | _ => exact conv _ a w h
 ·
  next hwt =>
  rw [if_neg hwt] at this
  exact conv .normal _ _ this
theorem WH.br1 (i : Nat) {o : Oper} (hi : ops[i]? = some o) (h : WL P n ops (nx (fun f' w' => S w' ∧ WH P n ops Q S fuel (listed.setIfInBounds i true) f' w') Q) [o] f w) (hr : Region.ready .any ops listed = [i] := by kernel_rfl) : WH P n ops Q S (fuel + 1) listed f w := by
 intro a ha
 refine wpAnyH_all hr (by simp) fun j hj => ?_
 obtain rfl : j = i := by simpa using hj
 exact WH.op j hi h a ha
theorem WH.br2 (i : Nat) {o : Oper} (hi : ops[i]? = some o) (k : Nat) {o2 : Oper} (hk : ops[k]? = some o2) (h : WL P n ops (nx (fun f' w' => S w' ∧ WH P n ops Q S fuel (listed.setIfInBounds i true) f' w') Q) [o] f w)
    (h2 : WL P n ops (nx (fun f' w' => S w' ∧ WH P n ops Q S fuel (listed.setIfInBounds k true) f' w') Q) [o2] f w) (hr : Region.ready .any ops listed = [i, k] := by kernel_rfl) : WH P n ops Q S (fuel + 1) listed f w := by
  intro a ha
  refine wpAnyH_all hr (by simp) fun j hj => ?_
  rcases List.mem_cons.1 hj with rfl | hj
  · exact WH.op j hi h a ha
  · obtain rfl : j = k := by simpa using hj
    exact WH.op j hk h2 a ha
theorem WH.done (hr : Region.ready .any ops listed = []) (h : Q .normal f w) : WH P n ops Q S fuel listed f w := fun _ ha => wpAnyH_done hr ⟨f, ha, h⟩ fuel
end
attribute [irreducible] WH
end
section
def ptR (r : (Int × Int) × Int) : Value := .tuple #[.agg #[.int .i64 r.1.1, .int .i64 r.1.2], .int .i64 r.2]
theorem pA_ne {b c : Nat} (h : c < b) : (pA (some (⟨b, 0, none⟩ : Addr))).block ≠ c := Nat.ne_of_gt h
theorem mat_point (bs_ : Nat) (s x y : Int) (w : World) (h : Blk w bs_ (stC s) 216) :
  Calls Tryz.prog 169 #[.pointer (some ⟨bs_, 0, none⟩), .int .i64 x, .int .i64 y] w fun r w' => r = .returned (ptR (pointR s x y)) ∧ Below w.heap.size w w' := by
 refine W.e func169 rfl ntmps169 bL ?_
 have o := br_ (w.heap.size) w
 refine W.sr <| WL.al z57_ rfl (fun P B d f g K => ?_)
 have C := bgl d h.lt
 have a := h.un g C
 have q := uB o d g
 have G := bge d o.size
 refine WL.Z rfl <| W.seq <| W.sr <| WL.M rfl <| WL.O (.nck rfl) <| WL.O (.fa u216_ rfl s30_ dD rfl) <| WL.R (Rd.ld (g30_ _) rfl a rfl) <| WL.O (.neq rfl rfl) <| WL.e <| W.cond rfl (fun u => ?_) (fun u => ?_)
 have D := ndT u
 refine W.seq <| W.regH 7 rfl mixed (fun w' => w'.heap[bs_]? = B.heap[bs_]? ∧ True) (fun Q i => ?_)
 have t := a.drew i
 have E := f.drew i
 have F := Drew.below q i
 have b := And.intro (t.trans a.symm) True.intro
 refine WH.tp 0 rfl (.buildL (ps := _) blt57 rfl rfl rfl pZ) b rfl ?_
 refine WH.tp 1 rfl (.mv rfl) b rfl ?_
 refine WH.tp 2 rfl (.nck rfl) b rfl ?_
 refine WH.tp 3 rfl (.fa u216_ rfl s30_ dD rfl) b rfl ?_
 refine WH.tk 4 rfl (fun w' hw' => Rd.ld (g30_ _) rfl ((hw'.1).trans a) rfl) b rfl ?_
 refine WH.br1 5 rfl <| WL.stL rfl rfl E isz57 rfl rfl (fun L l c H => ?_)
 have j := t.up c
 have v := ub_ F oO c
 refine WL.e <| ⟨⟨(j).trans (a).symm, tT⟩, ?_⟩
 refine WH.tp 6 rfl (.as rfl) ⟨(j).trans (a).symm, tT⟩ rfl ?_
 refine WH.done kR <| W.ret (W.retc2 rfl rfl (ldRow l u57_ rfl isz57) rfl ?_)
 exact ⟨fx_val (by unfold pointR; rw [if_pos aS]; rfl), v⟩
 have D := ndF u
 refine W.k <| W.sr <| WL.M rfl <| WL.M rfl <| ?_
 refine WL.O (.buildL (ps := _) blt57 rfl rfl rfl pS) ?_
 refine WL.stL rfl rfl f isz57 rfl rfl (fun N m n J => ?_)
 have A := ub_ q oO n
 refine WL.Z rfl <| W.ret (W.retc2 rfl rfl (ldRow m u57_ rfl isz57) rfl ?_)
 exact ⟨fx_val (by unfold pointR; rw [if_neg (by simp_all)]; rfl), A⟩
theorem mat_Apply (m : M6) (x y : Int) (w : World) :
  Calls Tryz.prog 138 #[.agg (m6V m).toArray, .agg #[.int .i64 x, .int .i64 y]] w fun r w' => r = .returned (ptR (applyR m x y)) ∧ Below w.heap.size w w' := by
 obtain ⟨a, b, c, d, e, f⟩ := m
 simp only [m6V]
 refine W.e func138 rfl ntmps138 bL ?_
 have ac := br_ (w.heap.size) w
 refine W.sr <| WL.box rfl rfl (fun b1 b6 ad E aj aZ => ?_)
 have ae := uB ac ad aj
 have aQ := bge ad ac.size
 refine WL.box rfl rfl (fun b3 b8 F G H a' => ?_)
 have aI := bgl F E.lt
 have af := E.un H aI
 have ag := uB ae F H
 have aR := bge F ae.size
 refine WL.al z57_ rfl (fun b7 b9 C J A b0 => ?_)
 have aJ := bgl C af.lt
 have ah := af.un A aJ
 have ak := bgl C G.lt
 have K := G.un A ak
 have L := uB ag C A
 have aS := bge C ag.size
 refine WL.Z rfl <| W.sr <| WL.al zeroValue216 rfl (fun N b2 o D n aT => ?_)
 have am := bgl o ah.lt
 have q := ah.un n am
 have an := bgl o K.lt
 have s := K.un n an
 have ao := bgl o J.lt
 have P := J.un n ao
 have Q := uB L o n
 have aK := bge o L.size
 refine WL.e <| W.sr <| WL.O (.ixr1 u42_ s3_ rfl rfl 0 rfl oO) <| WL.R (Rd.ld (g3_ _) rfl q rfl) <| WL.O (.fa u57_ rfl s3_ dD rfl) <| WL.R (Rd.ld (g3_ _) rfl s rfl) <| WL.O (.ixr1 u42_ s3_ rfl rfl 2 rfl oO) <| WL.R (Rd.ld (g3_ _) rfl q rfl) <| WL.O (.fa u57_ rfl s3_ dD rfl) <| WL.R (Rd.ld (g3_ _) rfl s rfl) <| WL.O (.ixr1 u42_ s3_ rfl rfl 4 rfl oO) <| WL.R (Rd.ld (g3_ _) rfl q rfl) <| WL.bsl (ps := _) u39_ s3_ z3_ rfl rfl rfl rfl rfl pR rfl (fun aL ap i a4 g aU => ?_)
 have aq := bgl i q.lt
 have T := q.un g aq
 have ar := bgl i s.lt
 have U := s.un g ar
 have au := bgl i P.lt
 have V := P.un g au
 have av := bgl i D.lt
 have aw := D.un g av
 have X := uB Q i g
 have aM := bge i Q.size
 have ax := Own.lit (m := 1) a4 rfl (by unfold maxLen; omega)
 have a5 : aL ≤ ap.heap.size := by omega
 have a6 := OwnM.ofI (l := [e]) ax
 refine WL.c1 hB_ rfl rfl ((mat_two N 0 a x c y _ [e] 1 _ aw (a6).rowp (by simp) (fun h => by simp at h) (fun _ => pA_ne oO))) (fun ba j => ?_)
 have aV := nt_ a5 j.1.size
 have t := Blk.keepB T j.1 T.lt (by simp only [List.mem_cons, List.not_mem_nil, or_false, not_or, not_false_eq_true]; omega)
 have B := Blk.keepB U j.1 U.lt (by simp only [List.mem_cons, List.not_mem_nil, or_false, not_or, not_false_eq_true]; omega)
 have Y := Blk.keepB V j.1 V.lt (by simp only [List.mem_cons, List.not_mem_nil, or_false, not_or, not_false_eq_true]; omega)
 have a0 := bt_ X (KeepB.below j.1 X.size (by simp <;> omega))
 have ai := j.2
 refine WL.Z rfl <| W.sr <| WL.O (.ixr1 u42_ s3_ rfl rfl 1 rfl oO) <| WL.R (Rd.ld (g3_ _) rfl t rfl) <| WL.O (.fa u57_ rfl s3_ dD rfl) <| WL.R (Rd.ld (g3_ _) rfl B rfl) <| WL.O (.ixr1 u42_ s3_ rfl rfl 3 rfl oO) <| WL.R (Rd.ld (g3_ _) rfl t rfl) <| WL.O (.fa u57_ rfl s3_ dD rfl) <| WL.R (Rd.ld (g3_ _) rfl B rfl) <| WL.O (.ixr1 u42_ s3_ rfl rfl 5 rfl oO) <| WL.R (Rd.ld (g3_ _) rfl t rfl) <| WL.bsl (ps := _) u39_ s3_ z3_ rfl rfl rfl rfl rfl pR rfl (fun aN ay k a7 u aW => ?_)
 have b4 := bgl k t.lt
 have b5 := bgl k B.lt
 have az := bgl k Y.lt
 have a1 := Y.un u az
 have aA := bgl k ai.lt
 have aB := ai.un u aA
 have a2 := uB a0 k u
 have aO := bge k a0.size
 have aC := Own.lit (m := 1) a7 rfl (by unfold maxLen; omega)
 have a8 : aN ≤ ay.heap.size := by omega
 have a9 := OwnM.ofI (l := [f]) aC
 refine WL.c1 hB_ rfl rfl ((mat_two N _ b x d y _ [f] 1 _ aB (a9).rowp (by simp) (fun h => by simp at h) (fun _ => pA_ne oO))) (fun bb v => ?_)
 have aX := nt_ a8 v.1.size
 have aD := Blk.keepB a1 v.1 a1.lt (by simp only [List.mem_cons, List.not_mem_nil, or_false, not_or, not_false_eq_true]; omega)
 have aE := bt_ a2 (KeepB.below v.1 a2.size (by simp <;> omega))
 have aP := v.2
 refine WL.Z rfl <| W.sr <| WL.M rfl <| WL.M rfl <| WL.c1 hB_ rfl rfl ((mat_point N _ _ _ _ aP)) (fun bc a3 => ?_)
 have aF := aD.bl a3
 have aG := btr aE a3
 refine WL.O (.ext rfl rfl) <| WL.O (.ext rfl rfl) <| WL.stL rfl rfl aF isz57 rfl rfl (fun bd aa ab aY => ?_)
 have aH := ub_ aG oO ab
 refine WL.Z rfl <| W.ret (W.retc2 rfl rfl (ldRow aa u57_ rfl isz57) rfl ?_)
 exact ⟨rfl, aH⟩
theorem mat_Delta (m : M6) (x y : Int) (w : World) :
  Calls Tryz.prog 137 #[.agg (m6V m).toArray, .agg #[.int .i64 x, .int .i64 y]] w fun r w' => r = .returned (ptR (deltaR m x y)) ∧ Below w.heap.size w w' := by
 obtain ⟨a, b, c, d, e, f⟩ := m
 simp only [m6V]
 refine W.e func137 rfl ntmps137 bL ?_
 have T := br_ (w.heap.size) w
 refine W.sr <| WL.box rfl rfl (fun b1 aq U s a1 am => ?_)
 have V := uB T U a1
 have ag := bge U T.size
 refine WL.box rfl rfl (fun b3 ar t u v an => ?_)
 have ab := bgl t s.lt
 have X := s.un v ab
 have Y := uB V t v
 have ah := bge t V.size
 refine WL.al z57_ rfl (fun b7 au q A n ao => ?_)
 have ac := bgl q X.lt
 have a0 := X.un n ac
 have a2 := bgl q u.lt
 have B := u.un n a2
 have C := uB Y q n
 have ai := bge q Y.size
 refine WL.Z rfl <| W.sr <| WL.al zeroValue216 rfl (fun D ap i N g aj => ?_)
 have a3 := bgl i a0.lt
 have k := a0.un g a3
 have a4 := bgl i B.lt
 have l := B.un g a4
 have a5 := bgl i A.lt
 have E := A.un g a5
 have F := uB C i g
 have ad := bge i C.size
 refine WL.e <| W.sr <| WL.O (.ixr1 u42_ s3_ rfl rfl 0 rfl oO) <| WL.R (Rd.ld (g3_ _) rfl k rfl) <| WL.O (.fa u57_ rfl s3_ dD rfl) <| WL.R (Rd.ld (g3_ _) rfl l rfl) <| WL.O (.ixr1 u42_ s3_ rfl rfl 2 rfl oO) <| WL.R (Rd.ld (g3_ _) rfl k rfl) <| WL.O (.fa u57_ rfl s3_ dD rfl) <| WL.R (Rd.ld (g3_ _) rfl l rfl) <| WL.c1 hB_ rfl rfl ((mat_two D 0 a x c y _ [] 0 _ N (RowM.nil _) (by simp) (fun _ => .inl rfl) (fun h => by simp at h))) (fun av j => ?_)
 have G := Blk.keepB k j.1 k.lt (by simp only [List.mem_cons, List.not_mem_nil, or_false, not_or, not_false_eq_true]; omega)
 have H := Blk.keepB l j.1 l.lt (by simp only [List.mem_cons, List.not_mem_nil, or_false, not_or, not_false_eq_true]; omega)
 have J := Blk.keepB E j.1 E.lt (by simp only [List.mem_cons, List.not_mem_nil, or_false, not_or, not_false_eq_true]; omega)
 have K := bt_ F (KeepB.below j.1 F.size (by simp <;> omega))
 have ae := j.2
 refine WL.Z rfl <| W.sr <| WL.O (.ixr1 u42_ s3_ rfl rfl 1 rfl oO) <| WL.R (Rd.ld (g3_ _) rfl G rfl) <| WL.O (.fa u57_ rfl s3_ dD rfl) <| WL.R (Rd.ld (g3_ _) rfl H rfl) <| WL.O (.ixr1 u42_ s3_ rfl rfl 3 rfl oO) <| WL.R (Rd.ld (g3_ _) rfl G rfl) <| WL.O (.fa u57_ rfl s3_ dD rfl) <| WL.R (Rd.ld (g3_ _) rfl H rfl) <| WL.c1 hB_ rfl rfl ((mat_two D _ b x d y _ [] 0 _ ae (RowM.nil _) (by simp) (fun _ => .inl rfl) (fun h => by simp at h))) (fun aw o => ?_)
 have a6 := Blk.keepB J o.1 J.lt (by simp only [List.mem_cons, List.not_mem_nil, or_false, not_or, not_false_eq_true]; omega)
 have a7 := bt_ K (KeepB.below o.1 K.size (by simp <;> omega))
 have af := o.2
 refine WL.Z rfl <| W.sr <| WL.M rfl <| WL.M rfl <| WL.c1 hB_ rfl rfl ((mat_point D _ _ _ _ af)) (fun ax L => ?_)
 have a8 := a6.bl L
 have a9 := btr a7 L
 refine WL.O (.ext rfl rfl) <| WL.O (.ext rfl rfl) <| WL.stL rfl rfl a8 isz57 rfl rfl (fun ay P Q ak => ?_)
 have aa := ub_ a9 oO Q
 refine WL.Z rfl <| W.ret (W.retc2 rfl rfl (ldRow P u57_ rfl isz57) rfl ?_)
 exact ⟨rfl, aa⟩
theorem blt42 : Tryz.prog.built 42 = fun parts => Instr.fill (fun i => some (i * 1, 1)) #[.int .i64 0, .int .i64 0, .int .i64 0, .int .i64 0, .int .i64 0, .int .i64 0] parts := by kernel_rfl
theorem mat_Identity (w : World) : Calls Tryz.prog 17 #[] w fun r w' => r = .returned (.agg (m6V m6I).toArray) ∧ Below w.heap.size w w' := by
 refine W.e func17 rfl ntmps17 bL ?_
 have a := br_ (w.heap.size) w
 refine W.sr <| WL.al z42_ rfl (fun o n b c d l => ?_)
 have i := uB a b d
 have k := bge b a.size
 refine WL.e <| ?_
 refine W.sr <| WL.O (.build (cs := (m6V m6I).toArray) rfl (by rw [blt42]; rfl)) ?_
 refine WL.stL rfl rfl c isz42 rfl rfl (fun q f g m => ?_)
 have j := ub_ i oO g
 refine WL.e <| W.ret (W.retc1 rfl rfl (ldRow f u42_ rfl isz42)  ?_)
 exact ⟨rfl, j⟩
theorem mat_Translate (x y : Int) (w : World) : Calls Tryz.prog 73 #[.int .i64 x, .int .i64 y] w fun r w' => r = .returned (.agg (m6V (m6T x y)).toArray) ∧ Below w.heap.size w w' := by
 refine W.e func73 rfl ntmps73 bL ?_
 have a := br_ (w.heap.size) w
 refine W.sr <| WL.al z42_ rfl (fun o n b c d l => ?_)
 have i := uB a b d
 have k := bge b a.size
 refine WL.e <| W.sr <| WL.M rfl <| WL.M rfl <| ?_
 refine WL.O (.build (cs := (m6V (m6T x y)).toArray) rfl (by rw [blt42]; rfl)) ?_
 refine WL.stL rfl rfl c isz42 rfl rfl (fun q f g m => ?_)
 have j := ub_ i oO g
 refine WL.e <| W.ret (W.retc1 rfl rfl (ldRow f u42_ rfl isz42)  ?_)
 exact ⟨rfl, j⟩
theorem mat_Stretch (x y : Int) (w : World) : Calls Tryz.prog 100 #[.int .i64 x, .int .i64 y] w fun r w' => r = .returned (.agg (m6V (m6S x y)).toArray) ∧ Below w.heap.size w w' := by
 refine W.e func100 rfl ntmps100 bL ?_
 have a := br_ (w.heap.size) w
 refine W.sr <| WL.al z42_ rfl (fun o n b c d l => ?_)
 have i := uB a b d
 have k := bge b a.size
 refine WL.e <| W.sr <| WL.M rfl <| WL.M rfl <| ?_
 refine WL.O (.build (cs := (m6V (m6S x y)).toArray) rfl (by rw [blt42]; rfl)) ?_
 refine WL.stL rfl rfl c isz42 rfl rfl (fun q f g m => ?_)
 have j := ub_ i oO g
 refine WL.e <| W.ret (W.retc1 rfl rfl (ldRow f u42_ rfl isz42)  ?_)
 exact ⟨rfl, j⟩
end
section
def m6R (r : M6 × Int) : Value := .tuple #[.agg (m6V r.1).toArray, .int .i64 r.2]
set_option maxHeartbeats 1600000 in
theorem mat_Concat (m k : M6) (w : World) :
  Calls Tryz.prog 99 #[.agg (m6V m).toArray, .agg (m6V k).toArray] w fun r w' => r = .returned (m6R (concatR m k)) ∧ Below w.heap.size w w' := by
 obtain ⟨a, b, c, d, e, f⟩ := m
 obtain ⟨u, hu⟩ : ∃ u, u = deltaR k a b := ⟨_, rfl⟩
 obtain ⟨v, hv⟩ : ∃ u, u = deltaR k c d := ⟨_, rfl⟩
 obtain ⟨t, ht⟩ : ∃ u, u = applyR k e f := ⟨_, rfl⟩
 have bi : concatR ⟨a, b, c, d, e, f⟩ k = if u.2 ≠ 0 then (m60, u.2) else if v.2 ≠ 0 then (m60, v.2) else if t.2 ≠ 0 then (m60, t.2) else (⟨u.1.1, u.1.2, v.1.1, v.1.2, t.1.1, t.1.2⟩, 0) := by rw [hu, hv, ht]; rfl
 rw [bi]
 obtain ⟨⟨u1, u2⟩, ue⟩ := u
 obtain ⟨⟨v1, v2⟩, ve⟩ := v
 obtain ⟨⟨t1, t2⟩, te⟩ := t
 simp only
 obtain ⟨ka, kb, kc, kd, ke, kf⟩ := k
 simp only [m6V]
 refine W.e func99 rfl ntmps99 bL ?_
 have aB := br_ (w.heap.size) w
 refine W.sr <| WL.box rfl rfl (fun b1 bQ aC H aG bG => ?_)
 have aD := uB aB aC aG
 have bq := bge aC aB.size
 refine WL.box rfl rfl (fun b3 bR J K L bH => ?_)
 have bj := bgl J H.lt
 have aE := H.un L bj
 have aF := uB aD J L
 have bt := bge J aD.size
 refine WL.al z42_ rfl (fun b7 bS F aH C bI => ?_)
 have bk := bgl F aE.lt
 have N := aE.un C bk
 have aI := bgl F K.lt
 have P := K.un C aI
 have aJ := uB aF F C
 have bu := bge F aF.size
 refine WL.Z rfl <| W.sr <| WL.R (Rd.ldA rfl P u42_ rfl isz42) <| WL.O (.ixr1 u42_ s3_ rfl rfl 0 rfl oO) <| WL.R (Rd.ld (g3_ _) rfl N rfl) <| WL.O (.ixr1 u42_ s3_ rfl rfl 1 rfl oO) <| WL.R (Rd.ld (g3_ _) rfl N rfl) <| ?_
 refine WL.O (.buildL (ps := _) blt57 rfl rfl rfl pS) ?_
 refine WL.c1 hB_ rfl rfl ((mat_Delta ⟨ka, kb, kc, kd, ke, kf⟩ a b _)) (fun bT B => ?_)
 have Q := N.bl B
 have T := P.bl B
 have U := aH.bl B
 have V := btr aJ B
 rw [← hu]
 simp only [ptR]
 refine WL.M rfl <| WL.O (.ext rfl rfl) <| WL.O (.ext rfl rfl) <| WL.al z57_ rfl (fun bU bJ y an o bv => ?_)
 have aK := bgl y Q.lt
 have aL := Q.un o aK
 have aM := bgl y T.lt
 have aN := T.un o aM
 have aO := bgl y U.lt
 have aP := U.un o aO
 have aQ := uB V y o
 have bm := bge y V.size
 refine WL.stL rfl rfl an isz57 rfl rfl (fun bV ao q bw => ?_)
 have D := aL.up q
 have X := aN.up q
 have Y := aP.up q
 have a0 := ub_ aQ oO q
 refine WL.Z rfl <| W.seq <| W.sr <| WL.M rfl <| WL.O (.neq rfl rfl) <| WL.e <| W.cond rfl (fun a1 => ?_) (fun a1 => ?_)
 have aR := ndT a1
 refine W.sr <| WL.O (.build (cs := (m6V m60).toArray) rfl (by rw [blt42]; rfl)) ?_
 refine WL.M rfl <| WL.stL rfl rfl Y isz42 rfl rfl (fun bW ap aq bx => ?_)
 have aS := ub_ a0 oO aq
 refine WL.Z rfl <| W.ret (W.retc2 rfl rfl (ldRow ap u42_ rfl isz42) rfl ?_)
 exact ⟨fx_val (by rw [if_pos oO]; rfl), aS⟩
 have aR := ndF a1
 refine W.k <| W.sr <| WL.R (Rd.ldA rfl X u42_ rfl isz42) <| WL.O (.ixr1 u42_ s3_ rfl rfl 2 rfl oO) <| WL.R (Rd.ld (g3_ _) rfl D rfl) <| WL.O (.ixr1 u42_ s3_ rfl rfl 3 rfl oO) <| WL.R (Rd.ld (g3_ _) rfl D rfl) <| ?_
 refine WL.O (.buildL (ps := _) blt57 rfl rfl rfl pS) ?_
 refine WL.c1 hB_ rfl rfl ((mat_Delta ⟨ka, kb, kc, kd, ke, kf⟩ c d _)) (fun bX A => ?_)
 have a2 := D.bl A
 have a3 := X.bl A
 have a4 := Y.bl A
 have a5 := ao.bl A
 have a6 := btr a0 A
 rw [← hv]
 simp only [ptR]
 refine WL.M rfl <| WL.O (.ext rfl rfl) <| WL.O (.ext rfl rfl) <| WL.al z57_ rfl (fun bY bK l ar i bz => ?_)
 have aT := bgl l a2.lt
 have aU := a2.un i aT
 have aV := bgl l a3.lt
 have aW := a3.un i aV
 have aX := bgl l a4.lt
 have aY := a4.un i aX
 have aZ := bgl l a5.lt
 have a' := a5.un i aZ
 have b0 := uB a6 l i
 have bn := bge l a6.size
 refine WL.stL rfl rfl ar isz57 rfl rfl (fun bZ au j bA => ?_)
 have E := aU.up j
 have a7 := aW.up j
 have a8 := aY.up j
 have b2 := a'.up j
 have a9 := ub_ b0 oO j
 refine WL.Z rfl <| W.seq <| W.sr <| WL.M rfl <| WL.O (.neq rfl rfl) <| WL.e <| W.cond rfl (fun aa => ?_) (fun aa => ?_)
 have b4 := ndT aa
 refine W.sr <| WL.O (.build (cs := (m6V m60).toArray) rfl (by rw [blt42]; rfl)) ?_
 refine WL.M rfl <| WL.stL rfl rfl a8 isz42 rfl rfl (fun b' av aw bB => ?_)
 have b5 := ub_ a9 oO aw
 refine WL.Z rfl <| W.ret (W.retc2 rfl rfl (ldRow av u42_ rfl isz42) rfl ?_)
 exact ⟨fx_val (by rw [if_neg oO, if_pos oO]; rfl), b5⟩
 have b4 := ndF aa
 refine W.k <| W.sr <| WL.R (Rd.ldA rfl a7 u42_ rfl isz42) <| WL.O (.ixr1 u42_ s3_ rfl rfl 4 rfl oO) <| WL.R (Rd.ld (g3_ _) rfl E rfl) <| WL.O (.ixr1 u42_ s3_ rfl rfl 5 rfl oO) <| WL.R (Rd.ld (g3_ _) rfl E rfl) <| ?_
 refine WL.O (.buildL (ps := _) blt57 rfl rfl rfl pS) ?_
 refine WL.c1 hB_ rfl rfl ((mat_Apply ⟨ka, kb, kc, kd, ke, kf⟩ e f _)) (fun c0 n => ?_)
 have b6 := E.bl n
 have b8 := a7.bl n
 have ab := a8.bl n
 have ac := b2.bl n
 have ad := au.bl n
 have ae := btr a9 n
 rw [← ht]
 simp only [ptR]
 refine WL.M rfl <| WL.O (.ext rfl rfl) <| WL.O (.ext rfl rfl) <| WL.al z57_ rfl (fun c2 bM g ax s bC => ?_)
 have bN := bgl g b6.lt
 have bO := bgl g b8.lt
 have b9 := bgl g ab.lt
 have ba := ab.un s b9
 have bb := bgl g ac.lt
 have bc := ac.un s bb
 have bd := bgl g ad.lt
 have be := ad.un s bd
 have bf := uB ae g s
 have bo := bge g ae.size
 refine WL.stL rfl rfl ax isz57 rfl rfl (fun c3 G x bD => ?_)
 have af := ba.up x
 have ag := bc.up x
 have ah := be.up x
 have ai := ub_ bf oO x
 refine WL.Z rfl <| W.seq <| W.sr <| WL.M rfl <| WL.O (.neq rfl rfl) <| WL.e <| W.cond rfl (fun aj => ?_) (fun aj => ?_)
 have bg := ndT aj
 refine W.sr <| WL.O (.build (cs := (m6V m60).toArray) rfl (by rw [blt42]; rfl)) ?_
 refine WL.M rfl <| WL.stL rfl rfl af isz42 rfl rfl (fun c4 ay az bE => ?_)
 have bh := ub_ ai oO az
 refine WL.Z rfl <| W.ret (W.retc2 rfl rfl (ldRow ay u42_ rfl isz42) rfl ?_)
 exact ⟨fx_val (by rw [if_neg oO, if_neg oO, if_pos oO]; rfl), bh⟩
 have bg := ndF aj
 refine W.k <| W.sr <| WL.O (.fa u57_ rfl s3_ dD rfl) <| WL.R (Rd.ld (g3_ _) rfl ag rfl) <| WL.O (.fa u57_ rfl s3_ dD rfl) <| WL.R (Rd.ld (g3_ _) rfl ag rfl) <| WL.O (.fa u57_ rfl s3_ dD rfl) <| WL.R (Rd.ld (g3_ _) rfl ah rfl) <| WL.O (.fa u57_ rfl s3_ dD rfl) <| WL.R (Rd.ld (g3_ _) rfl ah rfl) <| WL.O (.fa u57_ rfl s3_ dD rfl) <| WL.R (Rd.ld (g3_ _) rfl G rfl) <| WL.O (.fa u57_ rfl s3_ dD rfl) <| WL.R (Rd.ld (g3_ _) rfl G rfl) <| ?_
 refine WL.O (.build (cs := (m6V ⟨u1, u2, v1, v2, t1, t2⟩).toArray) rfl (by rw [blt42]; rfl)) ?_
 refine WL.stL rfl rfl af isz42 rfl rfl (fun bP ak am bp => ?_)
 have aA := ub_ ai oO am
 refine WL.Z rfl <| W.ret (W.retc2 rfl rfl (ldRow ak u42_ rfl isz42) rfl ?_)
 exact ⟨fx_val (by rw [if_neg oO, if_neg oO, if_neg oO]; rfl), aA⟩
theorem mat_det (bs_ : Nat) (m : M6) (w : World) (h : Blk w bs_ (stC 0) 216) :
  Calls Tryz.prog 172 #[.pointer (some ⟨bs_, 0, none⟩), .agg (m6V m).toArray] w fun r w' => r = .returned (.int .i64 (detR m).1) ∧ KeepB w.heap.size [bs_] w w' ∧ Blk w' bs_ (stC (detR m).2) 216 := by
 obtain ⟨a, b, c, d, e, f⟩ := m
 simp only [m6V]
 refine W.e func172 rfl ntmps172 bL ?_
 have y := KeepB.refl w.heap.size ([bs_]) w
 refine W.sr <| WL.box rfl rfl (fun E F A g l P => ?_)
 have G := bgl A h.lt
 have H := h.un l G
 have x := bge A y.size
 have J := kt_ y (kn_ l x)
 refine WL.Z rfl <| W.seq <| W.regH 14 rfl mixed (fun w' => w'.heap[E]? = F.heap[E]? ∧ True) (fun T n => ?_)
 have K := H.drew n
 have o := g.drew n
 have B := kt_ J (kd_ n)
 have i := And.intro (o.trans g.symm) True.intro
 refine WH.tp 0 rfl (.mv rfl) i rfl ?_
 refine WH.tp 1 rfl (.ixr1 u42_ s3_ rfl rfl 0 rfl oO) i rfl ?_
 refine WH.tk 2 rfl (fun w' hw' => Rd.ld (g3_ _) rfl ((hw'.1).trans g) rfl) i rfl ?_
 refine WH.tp 3 rfl (.ixr1 u42_ s3_ rfl rfl 3 rfl oO) i rfl ?_
 refine WH.tk 4 rfl (fun w' hw' => Rd.ld (g3_ _) rfl ((hw'.1).trans g) rfl) i rfl ?_
 refine WH.tp 6 rfl (.mv rfl) i rfl ?_
 refine WH.tp 7 rfl (.ixr1 u42_ s3_ rfl rfl 1 rfl oO) i rfl ?_
 refine WH.tk 8 rfl (fun w' hw' => Rd.ld (g3_ _) rfl ((hw'.1).trans g) rfl) i rfl ?_
 refine WH.tp 9 rfl (.ixr1 u42_ s3_ rfl rfl 2 rfl oO) i rfl ?_
 refine WH.tk 10 rfl (fun w' hw' => Rd.ld (g3_ _) rfl ((hw'.1).trans g) rfl) i rfl ?_
 refine WH.br1 5 rfl <| WL.c1 hB_ rfl rfl ((mat_mul bs_ 0 a d _ K)) (fun U q => ?_)
 have j := Blk.keepB o q.1 o.lt (by simp only [List.mem_cons, List.not_mem_nil, or_false, not_or, not_false_eq_true]; omega)
 have s := kt_ B (KeepB.wide q.1 B.size (by simp <;> omega))
 have L := q.2
 refine WL.e <| ⟨⟨(j).trans (g).symm, tT⟩, ?_⟩
 refine WH.br1 11 rfl <| WL.c1 hB_ rfl rfl ((mat_mul bs_ _ b c _ L)) (fun Q k => ?_)
 have C := Blk.keepB j k.1 j.lt (by simp only [List.mem_cons, List.not_mem_nil, or_false, not_or, not_false_eq_true]; omega)
 have t := kt_ s (KeepB.wide k.1 s.size (by simp <;> omega))
 have N := k.2
 refine WL.e <| ?_
 have u := And.intro (C.trans g.symm) True.intro
 refine ⟨u, ?_⟩
 refine WH.tp 12 rfl (.as rfl) u rfl ?_
 refine WH.tp 13 rfl (.as rfl) u rfl ?_
 refine WH.done kR <| W.sr <| WL.M rfl <| WL.M rfl <| WL.M rfl <| WL.c1 hB_ rfl rfl ((mat_sub bs_ _ _ _ _ N)) (fun R v => ?_)
 have D := kt_ t (KeepB.wide v.1 t.size (by simp <;> omega))
 have O := v.2
 refine WL.Z rfl <| W.ret (W.r1 rfl rfl ?_)
 exact ⟨rfl, D, O⟩
section
variable {P : Program} {f : Fr}
theorem Pure.shrV {x y : Operand} {k ky : IntKind} {tx ty : TypeId} {a b : Int} (hx : evo f x = some (.int k a)) (hy : evo f y = some (.int ky b)) (h0 : 0 ≤ b) (h1 : b ≤ k.bits) (r : Int) (hr : a / 2 ^ b.toNat = r) : Pure P (.binOp .shr tx x y ty) f (.int k r) := fun ρ hρ d ty' pos aft g w => by
 have e := shift_shr k ky a b h0 h1
 rw [hr] at e
 simp [execOp, hρ _ _ hx, hρ _ _ hy, eqGuard, binOp_shr, e]
end
theorem bits_half : ∀ k < 25, (bits24.getD k 0) / 2 = bits24.getD (k + 1) 0 := by decide
theorem bits_pos : ∀ k < 26, (0 < bits24.getD k 0 ↔ k < 25) ∧ 0 ≤ bits24.getD k 0 ∧ bits24.getD k 0 ≤ 16777216 := by decide
theorem bits_two : ∀ k < 25, 2 * bits24.getD (k + 1) 0 ≤ bits24.getD k 0 := by decide
theorem bits_drop : ∀ k < 25, bits24.drop k = bits24.getD k 0 :: bits24.drop (k + 1) := by decide
theorem bits_end : bits24.drop 25 = [] := by decide
theorem sq_le {a b : Int} (h0 : 0 ≤ a) (h : a ≤ b) : a * a ≤ b * b := Int.mul_le_mul h h h0 oO
theorem fix_Sqrt (a : Int) (w : World) : Calls Tryz.prog 175 #[.int .i64 a] w fun e w' => e = .returned (pairI (sqrtR a)) ∧ w = w' := by
 refine W.e func175 rfl ntmps175 bL ?_
 refine W.sr <| WL.A rfl <| WL.Z rfl <| W.seq <| W.sr <| WL.M rfl <| WL.c1 hB_ rfl rfl ((fix_Fits _ _)) (fun B n => ?_)
 obtain rfl := n
 refine WL.O (.not rfl) <| WL.M rfl <| WL.gd rfl rfl rfl (fun c => ?_) (fun c => ?_)
 have o := (nF c)
 refine WL.M rfl <| WL.gy rfl rfl rfl (by rw [(nF c)] <;> rfl) <| WL.O (.lss rfl rfl) <| WL.O (.pkF rfl (by rw [(nF c)] <;> rfl) rfl) <| WL.e <| W.cond rfl (fun g => ?_) (fun g => ?_)
 have q := dT g
 refine W.sr <| WL.A rfl <| WL.Z rfl <| W.ret (W.ret2 rfl rfl rfl ?_)
 exact ⟨fx_pair (by unfold sqrtR; rw [if_neg (by simp_all)]), rfl⟩
 have q := dF g
 have hf : fitsB a = true ∧ 0 ≤ a := by simp_all
 have H := fitsI hf.1
 have J := hf.2
 refine W.k <| W.sr <| WL.M rfl <| WL.O (.mul rfl rfl (i64w oO)) <| WL.Z rfl <| W.sr <| WL.Z rfl <| W.seq <| W.sr <| WL.Z rfl <| W.b <| W.loop (α := Nat × Int) (fun t => [(4, .int .i64 (a * 65536)), (5, .int .i64 t.2), (6, .int .i64 (bits24.getD t.1 0))]) (fun t w' => w = w' ∧ t.1 ≤ 25 ∧ 0 ≤ t.2 ∧ t.2 + 2 * bits24.getD t.1 0 ≤ 33554432 ∧ t.2 ≤ 33554431 ∧ rootI (bits24.drop t.1) (a * 65536) t.2 = rootI bits24 (a * 65536) 0) (fun t => 25 - t.1) ((0, 0)) ⟨rfl, rfl, rfl, tT⟩ (⟨rfl, by decide, by decide, by decide, by decide, rfl⟩) (fun t B hR => ?_)
 obtain ⟨⟨k, r⟩, s⟩ : ∃ i, i = t := ⟨t, rfl⟩
 subst s
 obtain ⟨rfl, C, D, E, F, d⟩ := hR
 simp only at C D E F d
 dsimp only
 obtain ⟨u, K, L⟩ := bits_pos k oO
 have N := sq_le (a := r + bits24.getD k 0) (b := 33554432) oO oO
 have P : 0 ≤ (r + bits24.getD k 0) * (r + bits24.getD k 0) := Int.mul_nonneg oO oO
 have Q := sq_le (a := r) (b := 33554432) oO oO
 have R : 0 ≤ r * r := Int.mul_nonneg oO oO
 refine W.seq <| W.sr <| WL.M rfl <| WL.O (.gtr rfl rfl) <| WL.e <| W.cond rfl (fun j => ?_) (fun j => ?_)
 have v := dT j
 have hk : k < 25 := u.1 aS
 have hd := bits_drop k hk
 have hh := bits_half k hk
 have G := bits_two k hk
 refine W.k <| W.seq <| W.b <| W.sr <| WL.M rfl <| WL.M rfl <| WL.O (.add rfl rfl (i64w oO)) <| WL.M rfl <| WL.M rfl <| WL.O (.add rfl rfl (i64w oO)) <| WL.O (.mul rfl rfl (i64w oO)) <| WL.M rfl <| WL.O (.leq rfl rfl) <| WL.e <| W.cond rfl (fun l => ?_) (fun l => ?_)
 have x := dT l
 refine W.reg <| WL.M rfl <| WL.M rfl <| WL.O (.add rfl rfl (i64w oO)) <| WL.Z rfl <| W.reg <| WL.M rfl <| WL.O (.shrV rfl rfl dD dD (bits24.getD (k + 1) 0) (by rw [← hh]; rfl)) <| WL.Z rfl ?_
 exact ⟨(k + 1, r + bits24.getD k 0), ⟨rfl, rfl, rfl, tT⟩, ⟨rfl, by ((try simp only) <;> omega), by ((try simp only) <;> omega), by ((try simp only) <;> omega), by ((try simp only) <;> omega), by rw [← d, hd, rootI, if_pos aS]⟩, by ((try simp only) <;> omega)⟩
 have x := dF l
 refine W.k <| W.reg <| WL.M rfl <| WL.O (.shrV rfl rfl dD dD (bits24.getD (k + 1) 0) (by rw [← hh]; rfl)) <| WL.Z rfl ?_
 exact ⟨(k + 1, r), ⟨rfl, rfl, rfl, tT⟩, ⟨rfl, by ((try simp only) <;> omega), by ((try simp only) <;> omega), by ((try simp only) <;> omega), by ((try simp only) <;> omega), by rw [← d, hd, rootI, if_neg aS]⟩, by ((try simp only) <;> omega)⟩
 have v := dF j
 refine W.exit <| W.seq <| W.seq ?_
 obtain rfl : k = 25 := by have := u.2; omega
 have f : rootI bits24 (a * 65536) 0 = r := by rw [← d, bits_end]; rfl
 refine W.reg <| WL.M rfl <| WL.M rfl <| WL.M rfl <| WL.O (.mul rfl rfl (i64w oO)) <| WL.O (.sub rfl rfl (i64w oO)) <| WL.M rfl <| WL.O (.gtr rfl rfl) <| WL.e <| W.cond rfl (fun m => ?_) (fun m => ?_)
 have y := dT m
 refine W.reg <| WL.M rfl <| WL.O (.add rfl rfl (i64w oO)) <| WL.Z rfl <| W.sr <| WL.M rfl <| WL.A rfl <| WL.Z rfl <| W.ret (W.ret2 rfl rfl rfl ?_)
 exact ⟨fx_pair (by unfold sqrtR sqrtI; rw [if_pos (by simp_all), f]; simp only; rw [if_pos aS]), rfl⟩
 have y := dF m
 refine W.k <| W.sr <| WL.M rfl <| WL.A rfl <| WL.Z rfl <| W.ret (W.ret2 rfl rfl rfl ?_)
 exact ⟨fx_pair (by unfold sqrtR sqrtI; rw [if_pos (by simp_all), f]; simp only; rw [if_neg aS]), rfl⟩
 have o := (nT c)
 refine WL.gn rfl rfl rfl (by rw [(nT c)] <;> rfl) <| WL.O (.pkT rfl (by rw [(nT c)] <;> rfl) rfl) <| WL.e <| W.condT rfl rfl <| W.sr <| WL.A rfl <| WL.Z rfl <| W.ret (W.ret2 rfl rfl rfl ?_)
 exact ⟨fx_pair (by unfold sqrtR; rw [if_neg (by simp_all)]), rfl⟩
end
end Go.Proofs.YthmhfjeojkbpfaaGreatDoor
