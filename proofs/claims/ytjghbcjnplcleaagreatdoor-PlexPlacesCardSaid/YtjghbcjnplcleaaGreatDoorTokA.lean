/-
  Tokens: dec.digit, ref.Hex, dec.whole, dec.power, dec.shift.
-/
import Derived.Test.YtjghbcjnplcleaaGreatDoorDecW
namespace Go.Proofs.YtjghbcjnplcleaaGreatDoor
open Go.RowKit

/-- a digit of any base; 99: none -/
def hexN (c : UInt8) : Nat :=
  if 48 ≤ c.toNat ∧ c.toNat ≤ 57 then c.toNat - 48 else if 97 ≤ c.toNat ∧ c.toNat ≤ 122 then c.toNat - 87 else if 65 ≤ c.toNat ∧ c.toNat ≤ 90 then c.toNat - 55 else 99
theorem hexN_le (c : UInt8) : hexN c ≤ 99 := by unfold hexN; split <;> (try split) <;> (try split) <;> omega

theorem ret_int {k : IntKind} {a b : Int} (h : a = b) : Ending.returned (.int k a) = .returned (.int k b) := by rw [h]

set_option maxHeartbeats 1000000 in
theorem dec_digit (c : UInt8) (w : World) :
    Calls Tryz.prog 212 #[.int .u8 (c.toNat : Int)] w fun e w' => e = .returned (.int .i64 (hexN c)) ∧ w = w' := by
  have hc : c.toNat < 256 := UInt8.toNat_lt c
  have hh : hexN c = if 48 ≤ c.toNat ∧ c.toNat ≤ 57 then c.toNat - 48 else if 97 ≤ c.toNat ∧ c.toNat ≤ 122 then c.toNat - 87 else if 65 ≤ c.toNat ∧ c.toNat ≤ 90 then c.toNat - 55 else 99 := rfl
  have Hh := hid hh; clear hh
  generalize c.toNat = n at *
  by_cases h1 : 48 ≤ n ∧ n ≤ 57
  · obtain ⟨h1a, h1b⟩ := h1
    go_enter Tryz.func212, Tryz.ntmps212
    go_wp2
    go_ret
    exact ⟨ret_int (by rw [Hh.out, if_pos ⟨h1a, h1b⟩]; omega), rfl⟩
  · have h1' : n < 48 ∨ 57 < n := by omega
    by_cases h2 : 97 ≤ n ∧ n ≤ 122
    · obtain ⟨h2a, h2b⟩ := h2
      have H1 := hid h1; clear h1 h1'
      go_enter Tryz.func212, Tryz.ntmps212
      go_wp2
      go_ret
      exact ⟨ret_int (by rw [Hh.out, if_neg H1.out, if_pos ⟨h2a, h2b⟩]; omega), rfl⟩
    · have h2' : n < 97 ∨ 122 < n := by omega
      by_cases h3 : 65 ≤ n ∧ n ≤ 90
      · obtain ⟨h3a, h3b⟩ := h3
        have H1 := hid h1; have H2 := hid h2; clear h1 h1' h2 h2'
        go_enter Tryz.func212, Tryz.ntmps212
        go_wp2
        go_ret
        exact ⟨ret_int (by rw [Hh.out, if_neg H1.out, if_neg H2.out, if_pos ⟨h3a, h3b⟩]; omega), rfl⟩
      · have h3' : n < 65 ∨ 90 < n := by omega
        have H1 := hid h1; have H2 := hid h2; have H3 := hid h3; clear h1 h2 h3
        go_enter Tryz.func212, Tryz.ntmps212
        go_wp2
        all_goals
          go_ret
          exact ⟨ret_int (by rw [Hh.out, if_neg H1.out, if_neg H2.out, if_neg H3.out]; rfl), rfl⟩

set_option maxHeartbeats 1000000 in
theorem ref_Hex (c : UInt8) (w : World) :
    Calls Tryz.prog 153 #[.int .u8 (c.toNat : Int)] w fun e w' => e = .returned (.int .i64 (hexN c)) ∧ w = w' := by
  have hc : c.toNat < 256 := UInt8.toNat_lt c
  have hh : hexN c = if 48 ≤ c.toNat ∧ c.toNat ≤ 57 then c.toNat - 48 else if 97 ≤ c.toNat ∧ c.toNat ≤ 122 then c.toNat - 87 else if 65 ≤ c.toNat ∧ c.toNat ≤ 90 then c.toNat - 55 else 99 := rfl
  have Hh := hid hh; clear hh
  generalize c.toNat = n at *
  by_cases h1 : 48 ≤ n ∧ n ≤ 57
  · obtain ⟨h1a, h1b⟩ := h1
    go_enter Tryz.func153, Tryz.ntmps153
    go_wp2
    go_ret
    exact ⟨ret_int (by rw [Hh.out, if_pos ⟨h1a, h1b⟩]; omega), rfl⟩
  · have h1' : n < 48 ∨ 57 < n := by omega
    by_cases h2 : 97 ≤ n ∧ n ≤ 122
    · obtain ⟨h2a, h2b⟩ := h2
      have H1 := hid h1; clear h1 h1'
      go_enter Tryz.func153, Tryz.ntmps153
      go_wp2
      go_ret
      exact ⟨ret_int (by rw [Hh.out, if_neg H1.out, if_pos ⟨h2a, h2b⟩]; omega), rfl⟩
    · have h2' : n < 97 ∨ 122 < n := by omega
      by_cases h3 : 65 ≤ n ∧ n ≤ 90
      · obtain ⟨h3a, h3b⟩ := h3
        have H1 := hid h1; have H2 := hid h2; clear h1 h1' h2 h2'
        go_enter Tryz.func153, Tryz.ntmps153
        go_wp2
        go_ret
        exact ⟨ret_int (by rw [Hh.out, if_neg H1.out, if_neg H2.out, if_pos ⟨h3a, h3b⟩]; omega), rfl⟩
      · have h3' : n < 65 ∨ 90 < n := by omega
        have H1 := hid h1; have H2 := hid h2; have H3 := hid h3; clear h1 h2 h3
        go_enter Tryz.func153, Tryz.ntmps153
        go_wp2
        all_goals
          go_ret
          exact ⟨ret_int (by rw [Hh.out, if_neg H1.out, if_neg H2.out, if_neg H3.out]; rfl), rfl⟩

/-- digits, held at a bound -/
def satOf (l : List UInt8) : Nat := l.foldl (fun n c => min (10 * n + (c.toNat - 48)) 1099511627776) 0
/-- a number of 32 bits, or false -/
def wholeT (l : List UInt8) : Int × Bool :=
  if (signedL l).2.isEmpty || !(signedL l).2.all isDig then (0, false)
  else let n : Int := if (signedL l).1 then -(satOf (signedL l).2 : Int) else satOf (signedL l).2
    (n, decide (-2147483648 ≤ n) && decide (n ≤ 2147483647))
/-- the number behind an e -/
def powerL (l : List UInt8) : Int × Bool :=
  if (signedL l).2.isEmpty || decide (3 < (signedL l).2.length) || !(signedL l).2.all isDig then (0, false)
  else (if (signedL l).1 then -(natOf (signedL l).2 : Int) else natOf (signedL l).2, true)

theorem satOf_snoc (l : List UInt8) (c : UInt8) : satOf (l ++ [c]) = min (10 * satOf l + (c.toNat - 48)) 1099511627776 := by simp [satOf]
theorem satOf_take (l : List UInt8) (k : Nat) (h : k < l.length) : satOf (l.take (k + 1)) = min (10 * satOf (l.take k) + (l[k].toNat - 48)) 1099511627776 := by
  rw [List.take_succ_eq_append_getElem h, satOf_snoc]
theorem satOf_from (l : List UInt8) : ∀ n, n ≤ 1099511627776 → l.foldl (fun n c => min (10 * n + (c.toNat - 48)) 1099511627776) n = min (l.foldl (fun n c => 10 * n + (c.toNat - 48)) n) 1099511627776 := by
  induction l with
  | nil => intro n h; simp; omega
  | cons c r ih =>
    intro n h
    rw [List.foldl_cons, List.foldl_cons, ih _ (by omega)]
    by_cases hb : 10 * n + (c.toNat - 48) ≤ 1099511627776
    · rw [Nat.min_eq_left hb]
    · have h1 := natOf_ge r (min (10 * n + (c.toNat - 48)) 1099511627776)
      have h2 := natOf_ge r (10 * n + (c.toNat - 48))
      have h3 : 1 ≤ 10 ^ r.length := Nat.one_le_pow _ _ (by decide)
      have e : min (10 * n + (c.toNat - 48)) 1099511627776 = 1099511627776 := by omega
      rw [e] at h1 ⊢
      have h4 : 1099511627776 * 1 ≤ 1099511627776 * 10 ^ r.length := Nat.mul_le_mul_left _ h3
      have h5 : 1099511627776 * 10 ^ r.length ≤ (10 * n + (c.toNat - 48)) * 10 ^ r.length := Nat.mul_le_mul_right _ (by omega)
      omega
theorem satOf_eq (l : List UInt8) : satOf l = min (natOf l) 1099511627776 := satOf_from l 0 (by omega)

theorem ret_ib2 {a b : Int} {c d : Bool} (h : a = b) (h' : c = d) : Ending.returned (.tuple #[.int .i64 a, .bool c]) = Ending.returned (.tuple #[.int .i64 b, .bool d]) := by rw [h, h']

set_option maxRecDepth 100000 in
set_option maxHeartbeats 2000000 in
theorem dec_whole (l : List UInt8) (w : World) (hl : l.length ≤ 1000) :
    Calls Tryz.prog 162 #[.string (bs l)] w fun e w' => e = .returned (.tuple #[.int .i64 (wholeT l).1, .bool (wholeT l).2]) ∧ Below w.heap.size w w' := by
  have hS := fun w => dec_signed l w (by omega)
  have hlen := signedL_len l
  have hW : wholeT l = (if (signedL l).2.isEmpty || !(signedL l).2.all isDig then (0, false) else let n : Int := if (signedL l).1 then -(satOf (signedL l).2 : Int) else satOf (signedL l).2
    (n, decide (-2147483648 ≤ n) && decide (n ≤ 2147483647))) := rfl
  generalize signedL l = sr at *
  obtain ⟨m, r⟩ := sr
  simp only at hW hS hlen
  have hs := bs_size r
  have hT := bs_toList
  cases r with
  | nil =>
    have HW := hid hW; clear hW
    go_enter Tryz.func162, Tryz.ntmps162
    go_wp2_with (go_at_call 158; go_must (refine (hS _).mono ?_); rintro e w1 ⟨rfl, hb1⟩)
    go_ret2
    exact ⟨by rw [HW.out]; rfl, hb1⟩
  | cons c0 r0 =>
    have hne := bs_ne c0 r0
    have hI : (c0 :: r0).isEmpty = false := rfl
    rw [hI, Bool.false_or] at hW
    clear hI hT
    have hPl := fun w => dec_plain (c0 :: r0) w (by omega)
    generalize c0 :: r0 = r at *
    cases hall : r.all isDig with
    | false =>
      rw [hall, if_pos (by decide)] at hW
      rw [hall] at hPl
      have HW := hid hW; clear hW hall
      go_enter Tryz.func162, Tryz.ntmps162
      go_wp2_with first | (go_at_call 158; go_must (refine (hS _).mono ?_); rintro e w1 ⟨rfl, hb1⟩) | (go_at_call 209; go_must (refine (hPl _).mono ?_); rintro e w2 ⟨rfl, hb2⟩)
      go_ret2
      exact ⟨by rw [HW.out]; rfl, btr hb1 hb2⟩
    | true =>
      rw [hall, if_neg (by decide)] at hW
      rw [hall] at hPl
      have hdig : ∀ c ∈ r, isDig c = true := List.all_eq_true.1 hall
      have HW := hid hW; have Hdig := hid hdig; clear hW hdig hall
      go_enter Tryz.func162, Tryz.ntmps162
      go_wp2_with first | (go_at_call 158; go_must (refine (hS _).mono ?_); rintro e w1 ⟨rfl, hb1⟩) | (go_at_call 209; go_must (refine (hPl _).mono ?_); rintro e w2 ⟨rfl, hb2⟩) | (refine wpList_conv_bytes rfl _ _ _ _ rfl Tryz.underlying9 Tryz.underlying22 Tryz.underlying5 _ rfl ?_; intro cap w3 hcap hrow hg hsz)
      have hb3 := btr (btr hb1 hb2) (below_of_grown hg)
      have Hrow := hid hrow; clear hrow hg hb1 hb2 hS hPl
      go_loop [5, 23] (fun n i => ∃ k : Nat, k ≤ r.length ∧ i = .int .i64 k ∧ n = .int .i64 (satOf (r.take k) : Int)) (fun _ i => r.length - (intOf i).toNat)
      case atStart => exact ⟨0, Nat.zero_le _, rfl, rfl⟩
      case round =>
        obtain ⟨k, hk, rfl, rfl⟩ := hrel
        have hle : satOf (r.take k) ≤ 1099511627776 := by rw [satOf_eq]; omega
        by_cases hkl : k < r.length
        · have hstep := satOf_take r k hkl
          have hd := isDig_bounds (Hdig.out r[k] (by simp))
          have hc := (Hrow.out k _ (byteVals_at r k hkl)).1
          have Hstep := hid hstep; clear hstep
          generalize satOf (r.take k) = N at *
          generalize r[k].toNat = c at *
          go_wp2
          go_round
          case rel => exact ⟨k + 1, by omega, by go_num, by rw [Hstep.out]; go_num⟩
          case measure => simp [intOf]; omega
        · obtain rfl : k = r.length := by omega
          rw [List.take_length] at hle ⊢
          clear Hrow
          generalize satOf r = N at *
          cases m
          all_goals
            go_wp2
            all_goals
              go_ret2
              refine ⟨?_, hb3⟩
              rw [HW.out]
              refine ret_ib2 rfl ?_
              rw [Bool.eq_iff_iff]
              simp
              try omega

set_option maxRecDepth 100000 in
set_option maxHeartbeats 2000000 in
theorem dec_power (l : List UInt8) (w : World) (hl : l.length ≤ 1000) :
    Calls Tryz.prog 164 #[.string (bs l)] w fun e w' => e = .returned (.tuple #[.int .i64 (powerL l).1, .bool (powerL l).2]) ∧ Below w.heap.size w w' := by
  have hS := fun w => dec_signed l w (by omega)
  have hlen := signedL_len l
  have hW : powerL l = (if (signedL l).2.isEmpty || decide (3 < (signedL l).2.length) || !(signedL l).2.all isDig then (0, false) else (if (signedL l).1 then -(natOf (signedL l).2 : Int) else natOf (signedL l).2, true)) := rfl
  generalize signedL l = sr at *
  obtain ⟨m, r⟩ := sr
  simp only at hW hS hlen
  have hs := bs_size r
  have hT := bs_toList
  cases r with
  | nil =>
    have HW := hid hW; clear hW
    go_enter Tryz.func164, Tryz.ntmps164
    go_wp2_with (go_at_call 158; go_must (refine (hS _).mono ?_); rintro e w1 ⟨rfl, hb1⟩)
    go_ret2
    exact ⟨by rw [HW.out]; rfl, hb1⟩
  | cons c0 r0 =>
    have hne := bs_ne c0 r0
    have hI : (c0 :: r0).isEmpty = false := rfl
    rw [hI, Bool.false_or] at hW
    clear hI hT
    have hPl := fun w => dec_plain (c0 :: r0) w (by omega)
    generalize c0 :: r0 = r at *
    by_cases h3 : 3 < r.length
    · rw [decide_eq_true h3, Bool.true_or, if_pos rfl] at hW
      have HW := hid hW; clear hW
      go_enter Tryz.func164, Tryz.ntmps164
      go_wp2_with first | (go_at_call 158; go_must (refine (hS _).mono ?_); rintro e w1 ⟨rfl, hb1⟩) | (go_at_call 209; go_must (refine (hPl _).mono ?_); rintro e w2 ⟨rfl, hb2⟩)
      go_ret2
      exact ⟨by rw [HW.out]; rfl, hb1⟩
    · rw [decide_eq_false h3, Bool.false_or] at hW
      cases hall : r.all isDig with
      | false =>
        rw [hall, if_pos (by decide)] at hW
        rw [hall] at hPl
        have HW := hid hW; clear hW hall
        go_enter Tryz.func164, Tryz.ntmps164
        go_wp2_with first | (go_at_call 158; go_must (refine (hS _).mono ?_); rintro e w1 ⟨rfl, hb1⟩) | (go_at_call 209; go_must (refine (hPl _).mono ?_); rintro e w2 ⟨rfl, hb2⟩)
        go_ret2
        exact ⟨by rw [HW.out]; rfl, btr hb1 hb2⟩
      | true =>
        rw [hall, if_neg (by decide)] at hW
        rw [hall] at hPl
        have hdig : ∀ c ∈ r, isDig c = true := List.all_eq_true.1 hall
        have HW := hid hW; have Hdig := hid hdig; clear hW hdig hall
        go_enter Tryz.func164, Tryz.ntmps164
        go_wp2_with first | (go_at_call 158; go_must (refine (hS _).mono ?_); rintro e w1 ⟨rfl, hb1⟩) | (go_at_call 209; go_must (refine (hPl _).mono ?_); rintro e w2 ⟨rfl, hb2⟩) | (refine wpList_conv_bytes rfl _ _ _ _ rfl Tryz.underlying9 Tryz.underlying22 Tryz.underlying5 _ rfl ?_; intro cap w3 hcap hrow hg hsz)
        have hb3 := btr (btr hb1 hb2) (below_of_grown hg)
        have Hrow := hid hrow; clear hrow hg hb1 hb2 hS hPl
        have hnat : ∀ k, natOf (r.take k) < 1000 := by
          intro k
          have h1 := natOf_take_le r k
          have h2 := natOf_lt r Hdig.out
          have h4 : 10 ^ r.length ≤ 10 ^ 3 := Nat.pow_le_pow_right (by decide) (by omega)
          omega
        have Hnat := hid hnat; clear hnat
        go_loop [5, 28] (fun n i => ∃ k : Nat, k ≤ r.length ∧ i = .int .i64 k ∧ n = .int .i64 (natOf (r.take k) : Int)) (fun _ i => r.length - (intOf i).toNat)
        case atStart => exact ⟨0, Nat.zero_le _, rfl, rfl⟩
        case round =>
          obtain ⟨k, hk, rfl, rfl⟩ := hrel
          have hle := Hnat.out k
          by_cases hkl : k < r.length
          · have hstep := natOf_take r k hkl
            have hd := isDig_bounds (Hdig.out r[k] (by simp))
            have hc := (Hrow.out k _ (byteVals_at r k hkl)).1
            have Hstep := hid hstep; clear hstep
            generalize natOf (r.take k) = N at *
            generalize r[k].toNat = c at *
            go_wp2
            go_round
            case rel => exact ⟨k + 1, by omega, by go_num, by rw [Hstep.out]; go_num⟩
            case measure => simp [intOf]; omega
          · obtain rfl : k = r.length := by omega
            rw [List.take_length] at hle ⊢
            clear Hrow Hnat
            generalize natOf r = N at *
            cases m
            all_goals
              go_wp2
              go_ret2
              exact ⟨by rw [HW.out]; rfl, hb3⟩

theorem repeat_one (c : UInt8) (k : Nat) : Lib.repeatL [c] k = List.replicate k c := by
  induction k with
  | zero => rfl
  | succ k ih => rw [Lib.repeatL, ih]; rfl
theorem zeros (k : Nat) (w : World) (hk : k ≤ 100000) :
    Calls Tryz.prog 216 #[.string ⟨#[48]⟩, .int .i64 k] w fun e w' => e = .returned (.string (bs (List.replicate k 48))) ∧ Below w.heap.size w w' := by
  rw [← repeat_one]
  exact Tryz.strings_Repeat ⟨#[48]⟩ k w (by omega) (by show 1 * k ≤ _; omega)

theorem ret_ss {a b a' b' : ByteArray} (h1 : a = a') (h2 : b = b') : Ending.returned (.tuple #[.string a, .string b]) = Ending.returned (.tuple #[.string a', .string b']) := by
  rw [h1, h2]

set_option maxHeartbeats 1000000 in
theorem dec_shift (A B : List UInt8) (k : Int) (w : World) (hA : A.length + B.length ≤ 1000) (hk : -2000 ≤ k) (hk2 : k ≤ 2000) :
    Calls Tryz.prog 165 #[.string (bs A), .string (bs B), .int .i64 k] w fun e w' => e = .returned (.tuple #[.string (bs (wholeD (A ++ B) (A.length + k))), .string (bs (restD (A ++ B) (A.length + k)))]) ∧ Below w.heap.size w w' := by
  have sA := bs_size A
  have sB := bs_size B
  have hcat := bs_append A B
  have hcs : (bs (A ++ B)).size = A.length + B.length := by rw [bs_size]; simp
  have hcl : (A ++ B).length = A.length + B.length := by simp
  by_cases h1 : (A.length : Int) + k < 0
  · have hZ := fun w => zeros (-((A.length : Int) + k)).toNat w (by omega)
    have e1 : (((-((A.length : Int) + k)).toNat : Nat) : Int) = -((A.length : Int) + k) := by omega
    rw [e1] at hZ
    have eW : wholeD (A ++ B) (A.length + k) = [] := by
      unfold wholeD
      have : ((A.length : Int) + k).toNat = 0 := by omega
      rw [this]; simp
    have eR : restD (A ++ B) (A.length + k) = List.replicate (-((A.length : Int) + k)).toNat 48 ++ (A ++ B) := by
      unfold restD
      have : ((A.length : Int) + k).toNat = 0 := by omega
      rw [this]; rfl
    have hzs := bs_size (List.replicate (-((A.length : Int) + k)).toNat (48 : UInt8))
    rw [List.length_replicate] at hzs
    have hzs2 : (bs (List.replicate (-((A.length : Int) + k)).toNat (48 : UInt8))).size ≤ 3000 := by rw [hzs]; omega
    have EW := hid eW; have ER := hid eR; clear eW eR e1 hzs
    generalize List.replicate (-((A.length : Int) + k)).toNat (48 : UInt8) = Z at *
    have hcat2 := bs_append Z (A ++ B)
    have Hcat2 := hid hcat2; clear hcat2 hcl
    generalize A ++ B = C at *
    go_enter Tryz.func165, Tryz.ntmps165
    go_wp2_with (go_at_call 216; go_must (refine (hZ _).mono ?_); rintro e w1 ⟨rfl, hb1⟩)
    go_ret2
    exact ⟨ret_ss (by rw [EW.out]; rfl) (by rw [ER.out]; exact Hcat2.out), hb1⟩
  · by_cases h2 : (A.length : Int) + (B.length : Int) < (A.length : Int) + k
    · have hZ := fun w => zeros (((A.length : Int) + k) - ((A.length : Int) + (B.length : Int))).toNat w (by omega)
      have e1 : (((((A.length : Int) + k) - ((A.length : Int) + (B.length : Int))).toNat : Nat) : Int) = ((A.length : Int) + k) - ((A.length : Int) + (B.length : Int)) := by omega
      rw [e1] at hZ
      have hzl : (A ++ B ++ List.replicate (((A.length : Int) + k) - ((A.length : Int) + (B.length : Int))).toNat (48 : UInt8)).length = ((A.length : Int) + k).toNat := by
        simp; omega
      have eW : wholeD (A ++ B) (A.length + k) = A ++ B ++ List.replicate (((A.length : Int) + k) - ((A.length : Int) + (B.length : Int))).toNat 48 := by
        unfold wholeD
        rw [List.take_of_length_le (by rw [hcl]; omega)]
        congr 2; rw [hcl]; omega
      have eR : restD (A ++ B) (A.length + k) = [] := by
        unfold restD
        have : (-((A.length : Int) + k)).toNat = 0 := by omega
        rw [this, List.drop_eq_nil_of_le (by rw [hcl]; omega)]; rfl
      have hzs : (bs (List.replicate (((A.length : Int) + k) - ((A.length : Int) + (B.length : Int))).toNat (48 : UInt8))).size ≤ 3000 := by rw [bs_size]; simp; omega
      have EW := hid eW; have ER := hid eR; clear eW eR
      generalize List.replicate (((A.length : Int) + k) - ((A.length : Int) + (B.length : Int))).toNat (48 : UInt8) = Z at *
      have hcat2 := bs_append (A ++ B) Z
      have hc2s := bs_size (A ++ B ++ Z)
      have x1 := ext_take (A ++ B ++ Z) ((A.length : Int) + k).toNat
      have x2 := ext_drop (A ++ B ++ Z) ((A.length : Int) + k).toNat ((A.length : Int) + k).toNat hzl.symm
      rw [← hzl, List.take_length, hzl] at x1
      rw [← hzl, List.drop_length, hzl] at x2
      rw [hzl] at hc2s
      clear e1 hcl
      have hat : ((((A.length : Int) + k).toNat : Nat) : Int) = (A.length : Int) + k := by omega
      generalize A ++ B = C at *
      generalize C ++ Z = D at *
      clear hzl
      go_enter Tryz.func165, Tryz.ntmps165
      go_wp2_with (go_at_call 216; go_must (refine (hZ _).mono ?_); rintro e w1 ⟨rfl, hb1⟩)
      have X1 := hid x1; have X2 := hid x2; clear x1 x2
      go_quiet (fail)
      go_wp2
      go_ret2
      exact ⟨ret_ss (by rw [EW.out]; exact X1.out) (by rw [ER.out]; rfl), hb1.trans (bdrewN _ _ |>.mono hb1.size)⟩
    · have eW : wholeD (A ++ B) (A.length + k) = (A ++ B).take ((A.length : Int) + k).toNat := by
        unfold wholeD
        rw [show ((A.length : Int) + k).toNat - (A ++ B).length = 0 from by rw [hcl]; omega]; simp
      have eR : restD (A ++ B) (A.length + k) = (A ++ B).drop ((A.length : Int) + k).toNat := by
        unfold restD
        have : (-((A.length : Int) + k)).toNat = 0 := by omega
        rw [this]; rfl
      have x1 := ext_take (A ++ B) ((A.length : Int) + k).toNat
      have x2 := ext_drop (A ++ B) ((A.length : Int) + k).toNat (A.length + B.length) hcl.symm
      have EW := hid eW; have ER := hid eR; have X1 := hid x1; have X2 := hid x2; clear eW eR x1 x2 hcl
      generalize A ++ B = C at *
      go_enter Tryz.func165, Tryz.ntmps165
      go_wp2_with fail
      go_quiet (fail)
      go_wp2
      go_ret2
      exact ⟨ret_ss (by rw [EW.out]; exact X1.out) (by rw [ER.out]; exact X2.out), bdrewN _ _⟩

end Go.Proofs.YtjghbcjnplcleaaGreatDoor
