/-
  Tokens: ref.Token at a text with a base.
-/
import Derived.Test.YtjghbcjnplcleaaGreatDoorTokE
import Derived.Deep.DeepCutAuto
namespace Go.Proofs.YtjghbcjnplcleaaGreatDoor
open Go.RowKit

theorem digN_split (A B : List UInt8) (x : UInt8) (hA : ∀ c ∈ A, isDig c = true) (hx : isDig x = false) : digN (A ++ x :: B) = A.length := by
  induction A with
  | nil => show digN (x :: B) = 0; rw [digN_cons, hx]; rfl
  | cons c A ih =>
    show digN (c :: (A ++ x :: B)) = _
    rw [digN_cons, hA c (by simp), if_pos rfl, ih fun d hd => hA d (by simp [hd])]
    simp

theorem cutC_join (x : UInt8) (l : List UInt8) (h : (cutC x l).2.2 = true) : l = (cutC x l).1 ++ x :: (cutC x l).2.1 := by
  induction l with
  | nil => simp [cutC] at h
  | cons c r ih =>
    unfold cutC at h ⊢
    by_cases hc : c = x
    · simp only [hc, if_true]; rfl
    · simp only [hc, if_false] at h ⊢
      show c :: r = c :: ((cutC x r).1 ++ x :: (cutC x r).2.1)
      rw [← ih h]

theorem at_behind (A B : List UInt8) (x : UInt8) (k : Nat) (hk : k < B.length) (h : A.length + 1 + k < (A ++ x :: B).length) : (A ++ x :: B)[A.length + 1 + k]'h = B[k] := by
  rw [List.getElem_append_right (by omega)]
  have e : A.length + 1 + k - A.length = k + 1 := by omega
  simp [e]

theorem radixOk_split (l : List UInt8) (h : radixOk l = true) : ∃ A B, l = A ++ 35 :: B ∧ cutC 35 l = (A, B, true) ∧ A ≠ [] ∧ A.length ≤ 2 ∧ (∀ c ∈ A, isDig c = true) ∧ B ≠ [] := by
  unfold radixOk at h
  simp only [Bool.and_eq_true, decide_eq_true_eq, Bool.not_eq_true', List.isEmpty_eq_false_iff] at h
  obtain ⟨⟨⟨⟨h1, h2⟩, h3⟩, h4⟩, h5⟩ := h
  have hj := cutC_join 35 l h1
  exact ⟨_, _, hj, by rw [← h1], h2, h3, List.all_eq_true.1 h4, h5⟩

theorem radixOk_not (l : List UInt8) (h : radixOk l = false) (h1 : 1 ≤ digN l) (h2 : digN l ≤ 2) (h3 : digN l + 1 < l.length) : ∀ hh : digN l < l.length, l[digN l]'hh ≠ 35 := by
  intro hh he
  have hd : ∀ c ∈ l.take (digN l), isDig c = true := List.all_eq_true.1 (digN_take l)
  have hj : l = l.take (digN l) ++ 35 :: l.drop (digN l + 1) := by
    conv => lhs; rw [← List.take_append_drop (digN l) l, List.drop_eq_getElem_cons hh, he]
  have hlen : (l.take (digN l)).length = digN l := by simp; omega
  have hB : l.drop (digN l + 1) ≠ [] := by
    intro e
    have := congrArg List.length e
    simp at this; omega
  have hA : l.take (digN l) ≠ [] := by
    intro e
    have := congrArg List.length e
    rw [hlen] at this
    simp at this; omega
  have hc : cutC 35 l = (l.take (digN l), l.drop (digN l + 1), true) := by
    conv => lhs; rw [hj]
    exact cutC_yes 35 _ _ fun hm => absurd (hd 35 hm) (by decide)
  have : radixOk l = true := by
    unfold radixOk
    rw [hc]
    simp only [Bool.and_eq_true, decide_eq_true_eq, Bool.not_eq_true', List.isEmpty_eq_false_iff]
    exact ⟨⟨⟨⟨trivial, hA⟩, by omega⟩, List.all_eq_true.2 hd⟩, hB⟩
  rw [h] at this
  cases this

set_option maxRecDepth 100000 in
theorem ref_Token_long (l : List UInt8) (w : World) (hl : 64 < l.length) :
    Calls Tryz.prog 118 #[.string (bs l)] w fun e w' => e = .returned tokNone.val ∧ Below w.heap.size w w' := by
  have hs := bs_size l
  go_enter Tryz.func118, Tryz.ntmps118
  go_wp2_with fail
  exact bodyPost_ret (v := tokNone.val) (by simp [results, Tryz.results118, go_sem, TokR.val, tokNone]) rfl ⟨rfl, balloc (Below.refl _ _)⟩

set_option maxRecDepth 100000 in
set_option maxHeartbeats 8000000 in
theorem ref_Token_radix1 (x : UInt8) (B : List UInt8) (w : World) (hl : B.length + 2 ≤ 64) (hB : B ≠ []) (hx : isDig x = true) :
    Calls Tryz.prog 118 #[.string (bs ([x] ++ 35 :: B))] w fun e w' => e = .returned (radixV [x] B).val ∧ Below w.heap.size w w' := by
  obtain ⟨s, hS⟩ : ∃ s, s = bs ([x] ++ 35 :: B) := ⟨_, rfl⟩
  have hBl : 1 ≤ B.length := List.length_pos_iff.2 hB
  have hs : s.size = B.length + 2 := by rw [hS, bs_size]; simp
  have hat : ∀ h, s[1]'h = 35 := by subst hS; intro h; rfl
  have h0 : ∀ h, s[0]'h = x := by subst hS; intro h; rfl
  have hBk : ∀ k (hk : k < B.length) h, s[2 + k]'h = B[k] := by
    subst hS; intro k hk h
    exact at_behind [x] B 35 k hk _
  have hD : ∀ w, Calls Tryz.prog 80 #[.string s] w fun e w' => e = .returned (.int .i64 1) ∧ w = w' := by
    intro w
    have h := ref_Digits ([x] ++ 35 :: B) w (by simp; omega)
    rw [digN_split [x] B 35 (by simp; exact hx) (by decide), ← hS] at h
    exact h
  have hbx := isDig_bounds hx
  rw [← hS]
  obtain ⟨N, hN⟩ : ∃ N, natOf [x] = N := ⟨_, rfl⟩
  have hN2 : x.toNat - 48 = N := by rw [← hN]; simp [natOf]
  have hV : radixV [x] B = if N < 2 ∨ 36 < N then tokNone else radixRes (radixLoop N B 0 false) := by unfold radixV; rw [hN]
  generalize radixV [x] B = V at *
  have HV := hid hV; have HBk := hid hBk; have HN2 := hid hN2
  clear hV hBk hS hN hB hx  hN2
  obtain ⟨gd, hgd⟩ : ∃ gd : Bool, gd = (decide (2 ≤ N) && decide (N ≤ 36)) := ⟨_, rfl⟩
  have Hgd := hid hgd; clear hgd
  go_enter Tryz.func118, Tryz.ntmps118
  go_upto_region 8 with (go_at_call 80; go_must (refine (hD _).mono ?_); rintro e w1 ⟨rfl, rfl⟩)
  go_cut [6, 7] (fun s6 s7 wx => s6 = .int .i64 (N : Int) ∧ s7 = .bool gd ∧ wx = w.alloc (.cells #[.int .i64 0, .int .i64 0, .string ⟨#[]⟩] 143))
  case first =>
    have hNx : (x.toNat : Int) - 48 = (N : Int) := by have := HN2.out; omega
    by_cases ha : 2 ≤ N
    · by_cases hb : N ≤ 36
      · have ha2 : (2 : Int) ≤ (x.toNat : Int) - 48 := by omega
        have hb2 : (x.toNat : Int) - 48 ≤ 36 := by omega
        have HNx := hid hNx; clear hNx
        go_wp2
        go_meet
        exact ⟨by rw [← HNx.out], by rw [Hgd.out, decide_eq_true ha, decide_eq_true hb]; rfl, rfl⟩
      · have ha2 : (2 : Int) ≤ (x.toNat : Int) - 48 := by omega
        have hb2 : 36 < (x.toNat : Int) - 48 := by omega
        have HNx := hid hNx; clear hNx
        go_wp2
        go_meet
        exact ⟨by rw [← HNx.out], by rw [Hgd.out, decide_eq_true ha, decide_eq_false hb]; exact congrArg Value.bool (decide_eq_false (by omega)), rfl⟩
    · have ha2 : (x.toNat : Int) - 48 < 2 := by omega
      have HNx := hid hNx; clear hNx
      go_wp2
      go_meet
      exact ⟨by rw [← HNx.out], by rw [Hgd.out, decide_eq_false ha]; rfl, rfl⟩
  case rest =>
    obtain ⟨rfl, rfl, rfl⟩ := hcut
    clear hD hat h0  hbx HN2
    have hN99 : gd = true → 2 ≤ N ∧ N ≤ 36 := fun h => by rw [Hgd.out] at h; simpa using h
    have hstart : gd = true → V = radixRes (radixLoop N (B.drop 0) 0 false) := fun h => by
      have := hN99 h
      rw [HV.out, if_neg (by omega)]; rfl
    have hstart2 : gd = false → V = tokNone := fun h => by
      rw [HV.out, if_pos]
      rw [Hgd.out] at h
      simp only [Bool.and_eq_false_iff, decide_eq_false_iff_not] at h
      omega
    have HN99 := hid hN99; have Hstart := hid hstart; have Hstart2 := hid hstart2
    clear HV hN99 hstart hstart2 Hgd
    go_wp2
    go_loop [7, 8, 9, 10, 11] (fun g n o i _ => ∃ (k n0 : Nat) (ov gk : Bool), k ≤ B.length ∧ i = .int .i64 ((2 + k : Nat) : Int) ∧ n = .int .i64 n0 ∧ o = .bool ov ∧ g = .bool gk ∧ Hid (n0 < 4294967296) ∧ Hid (gk = true → gd = true) ∧ Hid (gk = true → V = radixRes (radixLoop N (B.drop k) n0 ov)) ∧ Hid (gk = false → V = tokNone)) (fun _ _ _ i _ => B.length + 2 - (intOf i).toNat)
    case atStart => exact ⟨0, 0, false, gd, Nat.zero_le _, rfl, rfl, rfl, rfl, hid (by decide), hid id, Hstart, Hstart2⟩
    case round =>
      obtain ⟨k, n0, ov, gk, hk, rfl, rfl, rfl, rfl, Hn0, Hgg, Hyes, Hno⟩ := hrel
      cases gk with
      | false =>
        have hv := Hno.out rfl
        have HV := hid hv; clear hv Hyes Hno Hgg
        go_wp2
        all_goals exact bodyPost_ret (v := tokNone.val) (by simp [results, Tryz.results118, go_sem, TokR.val, tokNone]) rfl ⟨by rw [HV.out], balloc (Below.refl _ _)⟩
      | true =>
        have hgt := Hgg.out rfl
        have hNb := HN99.out hgt
        clear Hgg
        obtain ⟨hNb1, hNb2⟩ := hNb
        have HV := hid (Hyes.out rfl); clear Hyes Hno
        have hnn := Hn0.out
        by_cases hkl : k < B.length
        · have hstep := radixLoop_drop N B k n0 ov hkl
          have hx := hexN_le B[k]
          have hH := fun w => ref_Hex B[k] w
          have hget := HBk.out k hkl
          generalize hexN B[k] = d at *
          generalize B[k] = c at *
          obtain ⟨P, hP⟩ : ∃ P : Nat, P = n0 * N := ⟨_, rfl⟩
          have hPi : (n0 : Int) * (N : Int) = (P : Int) := by rw [hP, Int.natCast_mul]
          have hP2 : P ≤ 154618822656 := by
            have h := Nat.mul_le_mul (show n0 ≤ 4294967296 by omega) hNb2
            rw [← hP] at h; omega
          rw [← hP] at hstep
          have Hstep := hid hstep; clear hstep hP
          by_cases hdN : N ≤ d
          · have hdN2 : decide ((d : Int) < (N : Int)) = false := decide_eq_false (by omega)
            by_cases hov : 4294967296 ≤ P + d
            · have hov2 : (4294967296 : Int) ≤ (P : Int) + (d : Int) := by omega
              have Hov := hid hov; clear hov
              go_wp2_with (go_at_call 153; go_must (refine (hH _).mono ?_); rintro e w5 ⟨rfl, rfl⟩)
              go_round
              case rel => exact ⟨k + 1, 0, true, false, by omega, by go_num, rfl, rfl, congrArg Value.bool (decide_eq_false (by omega)), hid (by decide), hid (fun h => by cases h), hid (fun h => by cases h), hid (fun _ => by rw [HV.out, Hstep.out, if_pos hdN]; rfl)⟩
              case measure => simp [intOf]; omega
            · have hov2 : decide ((4294967296 : Int) ≤ (P : Int) + (d : Int)) = false := decide_eq_false (by omega)
              have HPd := hid (show P + d < 4294967296 by omega)
              clear hov
              go_wp2_with (go_at_call 153; go_must (refine (hH _).mono ?_); rintro e w5 ⟨rfl, rfl⟩)
              go_round
              case rel => exact ⟨k + 1, P + d, ov, false, by omega, by go_num, by go_num, rfl, congrArg Value.bool (decide_eq_false (by omega)), HPd, hid (fun h => by cases h), hid (fun h => by cases h), hid (fun _ => by rw [HV.out, Hstep.out, if_pos hdN]; rfl)⟩
              case measure => simp [intOf]; omega
          · by_cases hov : 4294967296 ≤ P + d
            · have hov2 : (4294967296 : Int) ≤ (P : Int) + (d : Int) := by omega
              have Hov := hid hov; clear hov
              go_wp2_with (go_at_call 153; go_must (refine (hH _).mono ?_); rintro e w5 ⟨rfl, rfl⟩)
              go_round
              case rel => exact ⟨k + 1, 0, true, true, by omega, by go_num, rfl, rfl, congrArg Value.bool (decide_eq_true (by omega)), hid (by decide), hid (fun _ => hgt), hid (fun _ => by rw [HV.out, Hstep.out, if_neg hdN, if_pos Hov.out]), hid (fun h => by cases h)⟩
              case measure => simp [intOf]; omega
            · have hov2 : decide ((4294967296 : Int) ≤ (P : Int) + (d : Int)) = false := decide_eq_false (by omega)
              have HPd := hid (show P + d < 4294967296 by omega)
              have Hov := hid hov; clear hov
              go_wp2_with (go_at_call 153; go_must (refine (hH _).mono ?_); rintro e w5 ⟨rfl, rfl⟩)
              go_round
              case rel => exact ⟨k + 1, P + d, ov, true, by omega, by go_num, by go_num, rfl, congrArg Value.bool (decide_eq_true (by omega)), HPd, hid (fun _ => hgt), hid (fun _ => by rw [HV.out, Hstep.out, if_neg hdN, if_neg Hov.out]), hid (fun h => by cases h)⟩
              case measure => simp [intOf]; omega
        · obtain rfl : k = B.length := by omega
          have hend : V = radixRes (some (n0, ov)) := by rw [HV.out, List.drop_length]; rfl
          have Hend := hid hend; clear hend HV hkl HBk
          cases ov with
          | true =>
            go_wp2
            exact bodyPost_ret (v := tokGreat.val) (by simp [results, Tryz.results118, go_sem, TokR.val, tokGreat]) rfl ⟨by rw [Hend.out]; rfl, balloc (Below.refl _ _)⟩
          | false =>
            by_cases hbig : 2147483648 ≤ n0
            · have hbd : decide ((2147483648 : Int) ≤ (n0 : Int)) = true := decide_eq_true (by omega)
              have Hbig := hid hbig; clear hbig
              go_wp2
              exact bodyPost_ret (v := (tokInt ((n0 : Int) - 4294967296)).val) (by simp [results, Tryz.results118, go_sem, TokR.val, tokInt]) rfl ⟨by rw [Hend.out, radixRes]; simp only [Bool.false_eq_true, if_false, Hbig.out, if_true], balloc (Below.refl _ _)⟩
            · have hbd : decide ((2147483648 : Int) ≤ (n0 : Int)) = false := decide_eq_false (by omega)
              have Hbig := hid hbig; clear hbig
              go_wp2
              exact bodyPost_ret (v := (tokInt (n0 : Int)).val) (by simp [results, Tryz.results118, go_sem, TokR.val, tokInt]) rfl ⟨by rw [Hend.out, radixRes]; simp only [Bool.false_eq_true, if_false, Hbig.out], balloc (Below.refl _ _)⟩

set_option maxRecDepth 100000 in
set_option maxHeartbeats 8000000 in
theorem ref_Token_radix2 (x y : UInt8) (B : List UInt8) (w : World) (hl : B.length + 3 ≤ 64) (hB : B ≠ []) (hx : isDig x = true) (hy : isDig y = true) :
    Calls Tryz.prog 118 #[.string (bs ([x, y] ++ 35 :: B))] w fun e w' => e = .returned (radixV [x, y] B).val ∧ Below w.heap.size w w' := by
  obtain ⟨s, hS⟩ : ∃ s, s = bs ([x, y] ++ 35 :: B) := ⟨_, rfl⟩
  have hBl : 1 ≤ B.length := List.length_pos_iff.2 hB
  have hs : s.size = B.length + 3 := by rw [hS, bs_size]; simp
  have hat : ∀ h, s[2]'h = 35 := by subst hS; intro h; rfl
  have h0 : ∀ h, s[0]'h = x := by subst hS; intro h; rfl
  have h1 : ∀ h, s[1]'h = y := by subst hS; intro h; rfl
  have hBk : ∀ k (hk : k < B.length) h, s[3 + k]'h = B[k] := by
    subst hS; intro k hk h
    exact at_behind [x, y] B 35 k hk _
  have hD : ∀ w, Calls Tryz.prog 80 #[.string s] w fun e w' => e = .returned (.int .i64 2) ∧ w = w' := by
    intro w
    have h := ref_Digits ([x, y] ++ 35 :: B) w (by simp; omega)
    rw [digN_split [x, y] B 35 (by simp; exact ⟨hx, hy⟩) (by decide), ← hS] at h
    exact h
  have hbx := isDig_bounds hx
  have hby := isDig_bounds hy
  rw [← hS]
  obtain ⟨N, hN⟩ : ∃ N, natOf [x, y] = N := ⟨_, rfl⟩
  have hN2 : 10 * (x.toNat - 48) + (y.toNat - 48) = N := by rw [← hN]; simp [natOf]
  have hV : radixV [x, y] B = if N < 2 ∨ 36 < N then tokNone else radixRes (radixLoop N B 0 false) := by unfold radixV; rw [hN]
  generalize radixV [x, y] B = V at *
  have HV := hid hV; have HBk := hid hBk; have HN2 := hid hN2
  clear hV hBk hS hN hB hx hy hN2
  obtain ⟨gd, hgd⟩ : ∃ gd : Bool, gd = (decide (2 ≤ N) && decide (N ≤ 36)) := ⟨_, rfl⟩
  have Hgd := hid hgd; clear hgd
  go_enter Tryz.func118, Tryz.ntmps118
  go_upto_region 8 with (go_at_call 80; go_must (refine (hD _).mono ?_); rintro e w1 ⟨rfl, rfl⟩)
  go_cut [6, 7] (fun s6 s7 wx => s6 = .int .i64 (N : Int) ∧ s7 = .bool gd ∧ wx = w.alloc (.cells #[.int .i64 0, .int .i64 0, .string ⟨#[]⟩] 143))
  case first =>
    have hNx : ((x.toNat : Int) - 48) * 10 + ((y.toNat : Int) - 48) = (N : Int) := by have := HN2.out; omega
    by_cases ha : 2 ≤ N
    · by_cases hb : N ≤ 36
      · have ha2 : (2 : Int) ≤ ((x.toNat : Int) - 48) * 10 + ((y.toNat : Int) - 48) := by omega
        have hb2 : ((x.toNat : Int) - 48) * 10 + ((y.toNat : Int) - 48) ≤ 36 := by omega
        have HNx := hid hNx; clear hNx
        go_wp2
        go_meet
        exact ⟨by rw [← HNx.out], by rw [Hgd.out, decide_eq_true ha, decide_eq_true hb]; rfl, rfl⟩
      · have ha2 : (2 : Int) ≤ ((x.toNat : Int) - 48) * 10 + ((y.toNat : Int) - 48) := by omega
        have hb2 : 36 < ((x.toNat : Int) - 48) * 10 + ((y.toNat : Int) - 48) := by omega
        have HNx := hid hNx; clear hNx
        go_wp2
        go_meet
        exact ⟨by rw [← HNx.out], by rw [Hgd.out, decide_eq_true ha, decide_eq_false hb]; exact congrArg Value.bool (decide_eq_false (by omega)), rfl⟩
    · have ha2 : ((x.toNat : Int) - 48) * 10 + ((y.toNat : Int) - 48) < 2 := by omega
      have HNx := hid hNx; clear hNx
      go_wp2
      go_meet
      exact ⟨by rw [← HNx.out], by rw [Hgd.out, decide_eq_false ha]; rfl, rfl⟩
  case rest =>
    obtain ⟨rfl, rfl, rfl⟩ := hcut
    clear hD hat h0 h1 hby hbx HN2
    have hN99 : gd = true → 2 ≤ N ∧ N ≤ 36 := fun h => by rw [Hgd.out] at h; simpa using h
    have hstart : gd = true → V = radixRes (radixLoop N (B.drop 0) 0 false) := fun h => by
      have := hN99 h
      rw [HV.out, if_neg (by omega)]; rfl
    have hstart2 : gd = false → V = tokNone := fun h => by
      rw [HV.out, if_pos]
      rw [Hgd.out] at h
      simp only [Bool.and_eq_false_iff, decide_eq_false_iff_not] at h
      omega
    have HN99 := hid hN99; have Hstart := hid hstart; have Hstart2 := hid hstart2
    clear HV hN99 hstart hstart2 Hgd
    go_wp2
    go_loop [7, 8, 9, 10, 11] (fun g n o i _ => ∃ (k n0 : Nat) (ov gk : Bool), k ≤ B.length ∧ i = .int .i64 ((3 + k : Nat) : Int) ∧ n = .int .i64 n0 ∧ o = .bool ov ∧ g = .bool gk ∧ Hid (n0 < 4294967296) ∧ Hid (gk = true → gd = true) ∧ Hid (gk = true → V = radixRes (radixLoop N (B.drop k) n0 ov)) ∧ Hid (gk = false → V = tokNone)) (fun _ _ _ i _ => B.length + 3 - (intOf i).toNat)
    case atStart => exact ⟨0, 0, false, gd, Nat.zero_le _, rfl, rfl, rfl, rfl, hid (by decide), hid id, Hstart, Hstart2⟩
    case round =>
      obtain ⟨k, n0, ov, gk, hk, rfl, rfl, rfl, rfl, Hn0, Hgg, Hyes, Hno⟩ := hrel
      cases gk with
      | false =>
        have hv := Hno.out rfl
        have HV := hid hv; clear hv Hyes Hno Hgg
        go_wp2
        all_goals exact bodyPost_ret (v := tokNone.val) (by simp [results, Tryz.results118, go_sem, TokR.val, tokNone]) rfl ⟨by rw [HV.out], balloc (Below.refl _ _)⟩
      | true =>
        have hgt := Hgg.out rfl
        have hNb := HN99.out hgt
        clear Hgg
        obtain ⟨hNb1, hNb2⟩ := hNb
        have HV := hid (Hyes.out rfl); clear Hyes Hno
        have hnn := Hn0.out
        by_cases hkl : k < B.length
        · have hstep := radixLoop_drop N B k n0 ov hkl
          have hx := hexN_le B[k]
          have hH := fun w => ref_Hex B[k] w
          have hget := HBk.out k hkl
          generalize hexN B[k] = d at *
          generalize B[k] = c at *
          obtain ⟨P, hP⟩ : ∃ P : Nat, P = n0 * N := ⟨_, rfl⟩
          have hPi : (n0 : Int) * (N : Int) = (P : Int) := by rw [hP, Int.natCast_mul]
          have hP2 : P ≤ 154618822656 := by
            have h := Nat.mul_le_mul (show n0 ≤ 4294967296 by omega) hNb2
            rw [← hP] at h; omega
          rw [← hP] at hstep
          have Hstep := hid hstep; clear hstep hP
          by_cases hdN : N ≤ d
          · have hdN2 : decide ((d : Int) < (N : Int)) = false := decide_eq_false (by omega)
            by_cases hov : 4294967296 ≤ P + d
            · have hov2 : (4294967296 : Int) ≤ (P : Int) + (d : Int) := by omega
              have Hov := hid hov; clear hov
              go_wp2_with (go_at_call 153; go_must (refine (hH _).mono ?_); rintro e w5 ⟨rfl, rfl⟩)
              go_round
              case rel => exact ⟨k + 1, 0, true, false, by omega, by go_num, rfl, rfl, congrArg Value.bool (decide_eq_false (by omega)), hid (by decide), hid (fun h => by cases h), hid (fun h => by cases h), hid (fun _ => by rw [HV.out, Hstep.out, if_pos hdN]; rfl)⟩
              case measure => simp [intOf]; omega
            · have hov2 : decide ((4294967296 : Int) ≤ (P : Int) + (d : Int)) = false := decide_eq_false (by omega)
              have HPd := hid (show P + d < 4294967296 by omega)
              clear hov
              go_wp2_with (go_at_call 153; go_must (refine (hH _).mono ?_); rintro e w5 ⟨rfl, rfl⟩)
              go_round
              case rel => exact ⟨k + 1, P + d, ov, false, by omega, by go_num, by go_num, rfl, congrArg Value.bool (decide_eq_false (by omega)), HPd, hid (fun h => by cases h), hid (fun h => by cases h), hid (fun _ => by rw [HV.out, Hstep.out, if_pos hdN]; rfl)⟩
              case measure => simp [intOf]; omega
          · by_cases hov : 4294967296 ≤ P + d
            · have hov2 : (4294967296 : Int) ≤ (P : Int) + (d : Int) := by omega
              have Hov := hid hov; clear hov
              go_wp2_with (go_at_call 153; go_must (refine (hH _).mono ?_); rintro e w5 ⟨rfl, rfl⟩)
              go_round
              case rel => exact ⟨k + 1, 0, true, true, by omega, by go_num, rfl, rfl, congrArg Value.bool (decide_eq_true (by omega)), hid (by decide), hid (fun _ => hgt), hid (fun _ => by rw [HV.out, Hstep.out, if_neg hdN, if_pos Hov.out]), hid (fun h => by cases h)⟩
              case measure => simp [intOf]; omega
            · have hov2 : decide ((4294967296 : Int) ≤ (P : Int) + (d : Int)) = false := decide_eq_false (by omega)
              have HPd := hid (show P + d < 4294967296 by omega)
              have Hov := hid hov; clear hov
              go_wp2_with (go_at_call 153; go_must (refine (hH _).mono ?_); rintro e w5 ⟨rfl, rfl⟩)
              go_round
              case rel => exact ⟨k + 1, P + d, ov, true, by omega, by go_num, by go_num, rfl, congrArg Value.bool (decide_eq_true (by omega)), HPd, hid (fun _ => hgt), hid (fun _ => by rw [HV.out, Hstep.out, if_neg hdN, if_neg Hov.out]), hid (fun h => by cases h)⟩
              case measure => simp [intOf]; omega
        · obtain rfl : k = B.length := by omega
          have hend : V = radixRes (some (n0, ov)) := by rw [HV.out, List.drop_length]; rfl
          have Hend := hid hend; clear hend HV hkl HBk
          cases ov with
          | true =>
            go_wp2
            exact bodyPost_ret (v := tokGreat.val) (by simp [results, Tryz.results118, go_sem, TokR.val, tokGreat]) rfl ⟨by rw [Hend.out]; rfl, balloc (Below.refl _ _)⟩
          | false =>
            by_cases hbig : 2147483648 ≤ n0
            · have hbd : decide ((2147483648 : Int) ≤ (n0 : Int)) = true := decide_eq_true (by omega)
              have Hbig := hid hbig; clear hbig
              go_wp2
              exact bodyPost_ret (v := (tokInt ((n0 : Int) - 4294967296)).val) (by simp [results, Tryz.results118, go_sem, TokR.val, tokInt]) rfl ⟨by rw [Hend.out, radixRes]; simp only [Bool.false_eq_true, if_false, Hbig.out, if_true], balloc (Below.refl _ _)⟩
            · have hbd : decide ((2147483648 : Int) ≤ (n0 : Int)) = false := decide_eq_false (by omega)
              have Hbig := hid hbig; clear hbig
              go_wp2
              exact bodyPost_ret (v := (tokInt (n0 : Int)).val) (by simp [results, Tryz.results118, go_sem, TokR.val, tokInt]) rfl ⟨by rw [Hend.out, radixRes]; simp only [Bool.false_eq_true, if_false, Hbig.out], balloc (Below.refl _ _)⟩

end Go.Proofs.YtjghbcjnplcleaaGreatDoor
