/-
  dec.Print, dec.PrintReal, ref.Print, ref.PrintReal: each returns the same text.
-/
import Derived.Test.YtnjalolknhepdaaDecB
namespace Go.Proofs.Ytnjalolknhepdaa
open Go.RowKit

theorem norm_lo (n : Int) : -2147483648 ≤ norm n := by unfold norm fitsB; split <;> simp at * <;> omega
theorem norm_hi (n : Int) : norm n ≤ 2147483647 := by unfold norm fitsB; split <;> simp at * <;> omega
theorem signL_size (n : Int) : (bs (signL n)).size ≤ 1 := by rw [bs_size]; unfold signL; split <;> simp
theorem wholeL_size (n : Int) (h : -2147483648 ≤ n) (h' : n ≤ 2147483647) : (bs (wholeL n)).size ≤ 20 := digitsL_size _ (by omega)
theorem restL_size (n : Int) : (bs (restL n)).size ≤ 16 := by rw [bs_size]; exact fracL_len _

/-- a number's text -/
def printL (n : Int) : List UInt8 := signL n ++ wholeL n ++ (if restL n = [] then [] else 46 :: restL n)
/-- .. with a point in any case -/
def realL (n : Int) : List UInt8 := signL n ++ wholeL n ++ 46 :: (if restL n = [] then [48] else restL n)

theorem ret_str {a b : ByteArray} (h : a = b) : Ending.returned (.string a) = Ending.returned (.string b) := by rw [h]

set_option maxHeartbeats 400000 in
theorem dec_Print (n : Int) (w : World) :
    Calls Try.prog 8 #[.int .i64 n] w fun e w' => e = .returned (.string (bs (printL (norm n)))) ∧ Below w.heap.size w w' := by
  have h1 := signL_size (norm n)
  have h2 := wholeL_size (norm n) (norm_lo n) (norm_hi n)
  have h3 := restL_size (norm n)
  by_cases h0 : restL (norm n) = []
  · have H0 := hid h0
    have he : (bs (restL (norm n))).toList.isEmpty = true := by rw [h0]; simp [bs]
    clear h0
    go_enter Try.func8, Try.ntmps8
    go_wp2_with (go_at_call 27; refine (dec_parts _ _).mono ?_; rintro e w1 ⟨rfl, hb⟩)
    go_ret
    exact ⟨ret_str (by rw [printL, if_pos H0.out, bs_append]; simp), hb⟩
  · have H0 := hid h0
    have he : (bs (restL (norm n))).toList.isEmpty = false := by
      cases h : restL (norm n) with
      | nil => exact absurd h h0
      | cons a l => simp [bs]
    clear h0
    go_enter Try.func8, Try.ntmps8
    go_wp2_with (go_at_call 27; refine (dec_parts _ _).mono ?_; rintro e w1 ⟨rfl, hb⟩)
    go_ret
    refine ⟨ret_str ?_, hb⟩
    rw [printL, if_neg H0.out]
    show bs _ ++ bs _ ++ bs [46] ++ bs _ = _
    rw [bs_append, bs_append, bs_append]; simp

set_option maxHeartbeats 400000 in
theorem dec_PrintReal (n : Int) (w : World) :
    Calls Try.prog 10 #[.int .i64 n] w fun e w' => e = .returned (.string (bs (realL (norm n)))) ∧ Below w.heap.size w w' := by
  have h1 := signL_size (norm n)
  have h2 := wholeL_size (norm n) (norm_lo n) (norm_hi n)
  have h3 := restL_size (norm n)
  by_cases h0 : restL (norm n) = []
  · have H0 := hid h0
    have he : (bs (restL (norm n))).toList.isEmpty = true := by rw [h0]; simp [bs]
    clear h0
    go_enter Try.func10, Try.ntmps10
    go_wp2_with (go_at_call 27; refine (dec_parts _ _).mono ?_; rintro e w1 ⟨rfl, hb⟩)
    go_ret
    refine ⟨ret_str ?_, hb⟩
    rw [realL, if_pos H0.out]
    show bs _ ++ bs _ ++ bs [46] ++ bs [48] = _
    rw [bs_append, bs_append, bs_append]; simp
  · have H0 := hid h0
    have he : (bs (restL (norm n))).toList.isEmpty = false := by
      cases h : restL (norm n) with
      | nil => exact absurd h h0
      | cons a l => simp [bs]
    clear h0
    go_enter Try.func10, Try.ntmps10
    go_wp2_with (go_at_call 27; refine (dec_parts _ _).mono ?_; rintro e w1 ⟨rfl, hb⟩)
    go_ret
    refine ⟨ret_str ?_, hb⟩
    rw [realL, if_neg H0.out]
    show bs _ ++ bs _ ++ bs [46] ++ bs _ = _
    rw [bs_append, bs_append, bs_append]; simp

theorem ref_Print_not (n : Int) (w : World) (h : fitsB n = false) :
    Calls Try.prog 9 #[.int .i64 n] w fun e w' => e = .returned (.string (bs [48])) ∧ Below w.heap.size w w' := by
  go_enter Try.func9, Try.ntmps9
  go_wp2_with (go_at_call 28; refine (ref_Fits _ _).mono ?_; rintro e w1 ⟨rfl, rfl⟩)
  go_ret
  exact ⟨rfl, Below.refl _ _⟩

theorem fracL_ne (f : Nat) (h : 0 < f) (h' : f < 65536) : fracL f ≠ [] := by rw [fracL_step f h h']; simp
theorem decL_pos (n : Int) (h : 0 ≤ n) : decL n = digitsL n.toNat := by
  unfold decL; rw [if_neg (by omega)]; congr 1; omega
theorem printL_of (n m : Int) (hm : m = (n.natAbs : Int)) : printL n = signL n ++ decL (m / 65536) ++ (if 0 < m % 65536 then [46] else []) ++ fracL (m % 65536).toNat := by
  subst hm
  rw [decL_pos _ (by omega)]
  have e1 : ((n.natAbs : Int) / 65536).toNat = n.natAbs / 65536 := by omega
  have e2 : ((n.natAbs : Int) % 65536).toNat = n.natAbs % 65536 := by omega
  rw [e1, e2]
  unfold printL wholeL restL
  by_cases h0 : n.natAbs % 65536 = 0
  · have hc : ¬ (0 : Int) < (n.natAbs : Int) % 65536 := by omega
    simp [hc, h0, fracL_zero]
  · have hc : (0 : Int) < (n.natAbs : Int) % 65536 := by omega
    simp [hc, fracL_ne _ (show 0 < n.natAbs % 65536 by omega) (by omega)]
theorem bs_nil : (⟨#[]⟩ : ByteArray) = bs [] := rfl
theorem bs_one (c : UInt8) : (⟨#[c]⟩ : ByteArray) = bs [c] := rfl

set_option maxHeartbeats 400000 in
theorem ref_Print_pos (n : Int) (w : World) (h : 0 ≤ n) (h' : n ≤ 2147483647) :
    Calls Try.prog 9 #[.int .i64 n] w fun e w' => e = .returned (.string (bs (printL n))) ∧ Below w.heap.size w w' := by
  have hf := fitsB_yes (n := n) (by omega) h'
  have hd := decL_size (n / 65536) (by omega) (by omega)
  have hP := printL_of n n (by omega)
  rw [signL, if_neg (by omega)] at hP
  by_cases hr : 0 < n % 65536
  all_goals
    first | rw [if_pos hr] at hP | rw [if_neg hr] at hP
    have HP := hid hP; clear hP
    go_enter Try.func9, Try.ntmps9
    go_wp2_with first | (go_at_call 28; refine (ref_Fits _ _).mono ?_; rintro e w1 ⟨rfl, rfl⟩) | (go_at_call 29; go_must (refine (ref_Dec _ _ (by omega) (by omega)).mono ?_); rintro e w1 ⟨rfl, hb1⟩)
    go_loopw [3, 4] (fun s r wr => ∃ (t : List UInt8) (m : Nat), s = .string (bs t) ∧ r = .int .i64 m ∧ m < 65536 ∧ Below w.heap.size w wr ∧ t.length + (fracL m).length ≤ 60 ∧ printL n = t ++ fracL m) (fun _ r _ => (fracL (intOf r).toNat).length)
    case atStart =>
      have hl := fracL_len (n % 65536).toNat
      rw [bs_size] at hd
      refine ⟨_, (n % 65536).toNat, ?_, by go_num, by omega, hb1, ?_, HP.out⟩
      · simp [bs_nil, bs_one, bs_append]
      · simp; omega
    case round =>
      obtain ⟨t, m, rfl, rfl, hm, hb, hlen, hp⟩ := hrel
      have Hp := hid hp; clear hp HP
      by_cases hm0 : 0 < m
      · have hst := fracL_step m hm0 hm
        have Hst := hid hst; clear hst
        have hl2 := congrArg List.length Hst.out
        simp only [List.length_cons] at hl2
        have hs1 : (bs t).size ≤ 60 := by rw [bs_size]; omega
        have hs2 := decL_size ((m : Int) * 10 / 65536) (by omega) (by omega)
        clear hd hb1
        have hsz := hb.size
        go_wp2_with (go_at_call 29; go_must (refine (ref_Dec _ _ (by omega) (by omega)).mono ?_); rintro e w1 ⟨rfl, hb1⟩)
        have e1 : decL ((m : Int) * 10 / 65536) = [ch (48 + ((m * 10 / 65536 : Nat) : Int))] := by
          rw [decL_pos _ (by omega), digitsL_lt _ (by omega), Int.toNat_of_nonneg (by omega), Int.natCast_ediv, Int.natCast_mul]; rfl
        refine ⟨⟨t ++ decL ((m : Int) * 10 / 65536), m * 10 % 65536, by rw [bs_append], by go_num, by omega, hb.trans (hb1.mono hsz), ?_, ?_⟩, ?_⟩
        · rw [e1]; simp; omega
        · rw [Hp.out, Hst.out, e1]; simp
        · have e2 : ((m : Int) * 10 % 65536).toNat = m * 10 % 65536 := by omega
          have e3 : ((m : Int)).toNat = m := by omega
          simp only [intOf, e2, e3]; omega
      · have hm00 : m = 0 := by omega
        have Hm := hid hm00; clear hm00
        go_wp2
        go_ret
        exact ⟨ret_str (by rw [Hp.out, Hm.out, fracL_zero, List.append_nil]), hb⟩

set_option maxHeartbeats 400000 in
theorem ref_Print_neg (k : Int) (w : World) (h : 0 < k) (h' : k ≤ 2147483648) :
    Calls Try.prog 9 #[.int .i64 (-k)] w fun e w' => e = .returned (.string (bs (printL (-k)))) ∧ Below w.heap.size w w' := by
  have hf := fitsB_yes (n := -k) (by omega) (by omega)
  have hd := decL_size (k / 65536) (by omega) (by omega)
  have hP := printL_of (-k) k (by omega)
  rw [signL, if_pos (by omega)] at hP
  by_cases hr : 0 < k % 65536
  all_goals
    first | rw [if_pos hr] at hP | rw [if_neg hr] at hP
    have HP := hid hP; clear hP
    go_enter Try.func9, Try.ntmps9
    go_wp2_with first | (go_at_call 28; refine (ref_Fits _ _).mono ?_; rintro e w1 ⟨rfl, rfl⟩) | (go_at_call 29; go_must (refine (ref_Dec _ _ (by omega) (by omega)).mono ?_); rintro e w1 ⟨rfl, hb1⟩)
    go_loopw [3, 4] (fun s r wr => ∃ (t : List UInt8) (m : Nat), s = .string (bs t) ∧ r = .int .i64 m ∧ m < 65536 ∧ Below w.heap.size w wr ∧ t.length + (fracL m).length ≤ 60 ∧ printL (-k) = t ++ fracL m) (fun _ r _ => (fracL (intOf r).toNat).length)
    case atStart =>
      have hl := fracL_len (k % 65536).toNat
      rw [bs_size] at hd
      refine ⟨_, (k % 65536).toNat, ?_, by go_num, by omega, hb1, ?_, HP.out⟩
      · simp [bs_one, bs_append]
      · simp; omega
    case round =>
      obtain ⟨t, m, rfl, rfl, hm, hb, hlen, hp⟩ := hrel
      have Hp := hid hp; clear hp HP
      by_cases hm0 : 0 < m
      · have hst := fracL_step m hm0 hm
        have Hst := hid hst; clear hst
        have hl2 := congrArg List.length Hst.out
        simp only [List.length_cons] at hl2
        have hs1 : (bs t).size ≤ 60 := by rw [bs_size]; omega
        have hs2 := decL_size ((m : Int) * 10 / 65536) (by omega) (by omega)
        clear hd hb1
        have hsz := hb.size
        go_wp2_with (go_at_call 29; go_must (refine (ref_Dec _ _ (by omega) (by omega)).mono ?_); rintro e w1 ⟨rfl, hb1⟩)
        have e1 : decL ((m : Int) * 10 / 65536) = [ch (48 + ((m * 10 / 65536 : Nat) : Int))] := by
          rw [decL_pos _ (by omega), digitsL_lt _ (by omega), Int.toNat_of_nonneg (by omega), Int.natCast_ediv, Int.natCast_mul]; rfl
        refine ⟨⟨t ++ decL ((m : Int) * 10 / 65536), m * 10 % 65536, by rw [bs_append], by go_num, by omega, hb.trans (hb1.mono hsz), ?_, ?_⟩, ?_⟩
        · rw [e1]; simp; omega
        · rw [Hp.out, Hst.out, e1]; simp
        · have e2 : ((m : Int) * 10 % 65536).toNat = m * 10 % 65536 := by omega
          have e3 : ((m : Int)).toNat = m := by omega
          simp only [intOf, e2, e3]; omega
      · have hm00 : m = 0 := by omega
        have Hm := hid hm00; clear hm00
        go_wp2
        go_ret
        exact ⟨ret_str (by rw [Hp.out, Hm.out, fracL_zero, List.append_nil]), hb⟩

theorem ref_Print (n : Int) (w : World) :
    Calls Try.prog 9 #[.int .i64 n] w fun e w' => e = .returned (.string (bs (printL (norm n)))) ∧ Below w.heap.size w w' := by
  have e0 : printL 0 = [48] := by
    have hz : restL 0 = [] := rfl
    have hd : digitsL 0 = [48] := by rw [digitsL_lt 0 (by omega)]; rfl
    simp [printL, signL, wholeL, hz, hd]
  unfold norm
  by_cases h1 : n < -2147483648
  · rw [fitsB_lo h1]; simp only [Bool.false_eq_true, if_false, e0]; exact ref_Print_not n w (fitsB_lo h1)
  · by_cases h2 : 2147483647 < n
    · rw [fitsB_hi h2]; simp only [Bool.false_eq_true, if_false, e0]; exact ref_Print_not n w (fitsB_hi h2)
    · rw [fitsB_yes (by omega) (by omega)]
      by_cases h3 : n < 0
      · have h := ref_Print_neg (-n) w (by omega) (by omega)
        rw [Int.neg_neg] at h; exact h
      · exact ref_Print_pos n w (by omega) (by omega)

theorem restL_iff (n : Int) : restL n = [] ↔ n.natAbs % 65536 = 0 := by
  unfold restL
  constructor
  · intro h
    by_cases h0 : n.natAbs % 65536 = 0
    · exact h0
    · exact absurd h (fracL_ne _ (by omega) (by omega))
  · intro h; rw [h, fracL_zero]
theorem tmod_zero (n : Int) : ((n.tmod 65536) == 0) = decide (n.natAbs % 65536 = 0) := by
  rw [Bool.eq_iff_iff]
  simp only [beq_iff_eq, decide_eq_true_eq]
  rcases Int.le_total 0 n with h | h
  · rw [Int.tmod_eq_emod_of_nonneg h]; omega
  · have e : n.tmod 65536 = -((-n) % 65536) := by
      rw [← Int.tmod_eq_emod_of_nonneg (by omega), Int.neg_tmod, Int.neg_neg]
    rw [e]; omega
theorem norm_norm (n : Int) : norm (norm n) = norm n := by
  have h1 := norm_lo n
  have h2 := norm_hi n
  rw [norm, fitsB_yes h1 h2]; rfl
theorem printL_size (n : Int) : (bs (printL (norm n))).size ≤ 60 := by
  have h1 := signL_size (norm n)
  have h2 := wholeL_size (norm n) (norm_lo n) (norm_hi n)
  have h3 := restL_size (norm n)
  rw [bs_size] at *
  unfold printL
  split <;> simp <;> omega

set_option maxHeartbeats 400000 in
theorem ref_PrintReal (n : Int) (w : World) :
    Calls Try.prog 11 #[.int .i64 n] w fun e w' => e = .returned (.string (bs (realL (norm n)))) ∧ Below w.heap.size w w' := by
  have hs := printL_size n
  by_cases hf : fitsB n = true
  · have hn : norm n = n := by rw [norm, hf]; rfl
    by_cases h0 : n.natAbs % 65536 = 0
    · have ht : (n.tmod 65536 == 0) = true := by rw [tmod_zero]; simpa using h0
      have hr := (restL_iff n).2 h0
      have Hr := hid hr; have Hn := hid hn; clear hr hn h0
      go_enter Try.func11, Try.ntmps11
      go_wp2_with first | (go_at_call 28; refine (ref_Fits _ _).mono ?_; rintro e w1 ⟨rfl, rfl⟩) | (go_at_call 9; go_must (refine (ref_Print _ _).mono ?_); rintro e w1 ⟨rfl, hb1⟩)
      go_ret
      refine ⟨ret_str ?_, hb1⟩
      rw [Hn.out, realL, printL, if_pos Hr.out, if_pos Hr.out]
      show bs _ ++ bs [46, 48] = _
      rw [bs_append]; simp
    · have ht : (n.tmod 65536 == 0) = false := by rw [tmod_zero]; simpa using h0
      have hr := fun x => h0 ((restL_iff n).1 x)
      have Hr := hid hr; have Hn := hid hn; clear hr hn h0
      go_enter Try.func11, Try.ntmps11
      go_wp2_with first | (go_at_call 28; refine (ref_Fits _ _).mono ?_; rintro e w1 ⟨rfl, rfl⟩) | (go_at_call 9; go_must (refine (ref_Print _ _).mono ?_); rintro e w1 ⟨rfl, hb1⟩)
      go_ret
      refine ⟨ret_str ?_, hb1⟩
      rw [Hn.out, realL, printL, if_neg Hr.out, if_neg Hr.out]
  · have hf' : fitsB n = false := by simpa using hf
    have hn : norm n = 0 := by rw [norm, hf']; rfl
    have Hn := hid hn; clear hf hn
    have hs0 := printL_size 0
    go_enter Try.func11, Try.ntmps11
    go_wp2_with first | (go_at_call 28; refine (ref_Fits _ _).mono ?_; rintro e w1 ⟨rfl, rfl⟩) | (go_at_call 9; go_must (refine (ref_Print _ _).mono ?_); rintro e w1 ⟨rfl, hb1⟩)
    go_ret
    refine ⟨ret_str ?_, hb1⟩
    have hz : restL 0 = [] := rfl
    have h0 : norm 0 = 0 := rfl
    rw [Hn.out, h0, realL, printL, if_pos hz, if_pos hz]
    show bs _ ++ bs [46, 48] = _
    rw [bs_append]; simp

end Go.Proofs.Ytnjalolknhepdaa
