/-
  The reference's number reader: Digits, plain, scaled, signed, Parse.
-/
import Derived.Test.YtjghbcjnplcleaaGreatDoorDecV
namespace Go.Proofs.YtjghbcjnplcleaaGreatDoor
open Go.RowKit

def digN (l : List UInt8) : Nat := (l.takeWhile isDig).length
theorem digN_le (l : List UInt8) : digN l ≤ l.length := (List.takeWhile_sublist isDig).length_le
theorem digN_cons (c : UInt8) (l : List UInt8) : digN (c :: l) = if isDig c then digN l + 1 else 0 := by
  unfold digN; rw [List.takeWhile_cons]; split <;> simp
theorem digN_drop (l : List UInt8) (k : Nat) (h : k < l.length) : digN (l.drop k) = if isDig l[k] then digN (l.drop (k + 1)) + 1 else 0 := by
  rw [List.drop_eq_getElem_cons h, digN_cons]

set_option maxHeartbeats 1000000 in
theorem ref_Digits (l : List UInt8) (w : World) (hl : l.length ≤ 1000000) :
    Calls Tryz.prog 80 #[.string (bs l)] w fun e w' => e = .returned (.int .i64 (digN l)) ∧ w = w' := by
  have hs := bs_size l
  go_enter Tryz.func80, Tryz.ntmps80
  go_wp2
  go_loop [3] (fun n => ∃ k : Nat, k ≤ l.length ∧ n = .int .i64 k ∧ digN l = k + digN (l.drop k)) (fun n => l.length - (intOf n).toNat)
  case atStart => exact ⟨0, Nat.zero_le _, rfl, by simp⟩
  case round =>
    obtain ⟨k, hk, rfl, hd⟩ := hrel
    have Hd := hid hd; clear hd
    by_cases hkl : k < l.length
    · have hdd := digN_drop l k hkl
      obtain ⟨c, hc⟩ : ∃ c, c = l[k] := ⟨_, rfl⟩
      have hget : ∀ h, (bs l)[k]'h = c := fun _ => hc.symm
      rw [← hc] at hdd
      clear hc
      have Hdd := hid hdd; clear hdd
      by_cases hdig : isDig c = true
      · have hb := isDig_bounds hdig
        have Hdig := hid hdig; clear hdig
        go_wp2
        go_round
        case rel => exact ⟨k + 1, by omega, by go_num, by rw [Hd.out, Hdd.out, if_pos Hdig.out]; omega⟩
        case measure => simp [intOf]; omega
      · have hb : c.toNat < 48 ∨ 57 < c.toNat := by
          simp only [isDig, Bool.and_eq_true, decide_eq_true_eq] at hdig
          omega
        have Hdig := hid hdig; clear hdig
        go_wp2
        all_goals
          go_ret
          exact ⟨by rw [Hd.out, Hdd.out, if_neg Hdig.out]; rfl, rfl⟩
    · obtain rfl : k = l.length := by omega
      go_wp2
      go_ret
      exact ⟨by rw [Hd.out]; simp [digN], rfl⟩

theorem results5 {fn : Func} {t u v x y : Tmp} (h : fn.results = #[.tmp t, .tmp u, .tmp v, .tmp x, .tmp y]) (tmps : Array Value) (P : Program) (w : World) :
    (results fn tmps).run P w = .ok (.tuple #[tmps.getD t undef, tmps.getD u undef, tmps.getD v undef, tmps.getD x undef, tmps.getD y undef]) w := by
  simp [results, h]
theorem ret_plain {m h : Bool} {a b : ByteArray} {k : Nat} {o p : Bool} (h1 : a = b) (h2 : o = p) : Ending.returned (.tuple #[.bool m, .string a, .int .i64 k, .bool h, .bool o]) = Ending.returned (.tuple #[.bool m, .string b, .int .i64 k, .bool h, .bool p]) := by
  rw [h1, h2]

/-- digits, how many are ahead of the point, has it a point, is it a number -/
def plainR (r : List UInt8) : List UInt8 × Nat × Bool × Bool :=
  match r.drop (digN r) with
  | [] => (r.take (digN r), digN r, false, !(r.take (digN r)).isEmpty)
  | c :: R2 => if c = 46 then (r.take (digN r) ++ R2.take (digN R2), digN r, true, (R2.drop (digN R2)).isEmpty && !(r.take (digN r) ++ R2.take (digN R2)).isEmpty)
      else (r.take (digN r), digN r, false, false)

theorem ext_take (l : List UInt8) (n : Nat) : (bs l).extract 0 n = bs (l.take n) := by rw [bs_extract]; simp
theorem ext_drop (l : List UInt8) (n m : Nat) (h : m = l.length) : (bs l).extract n m = bs (l.drop n) := by
  subst h; rw [bs_extract, List.take_of_length_le (by simp)]
theorem pos_isEmpty (l : List UInt8) : decide (0 < l.length) = !l.isEmpty := by cases l <;> simp
theorem zero_isEmpty (l : List UInt8) : ((l.length : Int) == 0) = l.isEmpty := by
  cases l
  · rfl
  · rw [beq_eq_false_iff_ne.2 (by simp; omega)]; rfl

/-- what the walk is told of the text behind the sign -/
structure PlainFacts (r D1 R1 : List UInt8) (n1 : Nat) : Prop where
  n : n1 ≤ r.length
  e1 : (bs r).extract 0 n1 = bs D1
  e2 : (bs r).extract n1 r.length = bs R1
  d : ∀ w, Calls Tryz.prog 80 #[.string (bs r)] w fun e w' => e = .returned (.int .i64 n1) ∧ w = w'
theorem plainFacts (r : List UInt8) (h : r.length ≤ 1000000) : PlainFacts r (r.take (digN r)) (r.drop (digN r)) (digN r) :=
  ⟨digN_le r, ext_take _ _, ext_drop _ _ _ rfl, fun w => ref_Digits r w h⟩

set_option maxRecDepth 100000 in
set_option maxHeartbeats 4000000 in
theorem ref_plain_minus (r : List UInt8) (w : World) (hl : r.length + 1 ≤ 1000000) :
    Calls Tryz.prog 173 #[.string (bs (45 :: r))] w fun e w' => e = .returned (.tuple #[.bool true, .string (bs (plainR r).1), .int .i64 (plainR r).2.1, .bool (plainR r).2.2.1, .bool (plainR r).2.2.2]) ∧ Below w.heap.size w w' := by
  have hl1 : r.length ≤ 1000000 := by omega
  obtain ⟨hn1, e1, e2, hD⟩ := plainFacts r hl1
  have hP : plainR r = plainR r := rfl
  unfold plainR at hP ⊢
  clear hP
  have hr1 := bs_size r
  have hD1s := bs_size (r.take (digN r))
  have hD1l : (r.take (digN r)).length ≤ r.length := by simp; omega
  generalize r.take (digN r) = D1 at *
  generalize digN r = n1 at *
  cases hR : r.drop n1 with
  | nil =>
    rw [hR] at e2
    clear hR
    have hR1 : (bs []).size = 0 := rfl
    simp only
    have hs0 : (bs (45 :: r)).size = r.length + 1 := by rw [bs_size]; rfl
    have hg0 := bs_get0 45 r
    have hx0 := bs_tail 45 r
    go_enter Tryz.func173, Tryz.ntmps173
    go_wp2_with first | (go_at_call_of 80 (Value.string (bs r)); go_must (refine (hD _).mono ?_); rintro e w1 ⟨rfl, rfl⟩)
    refine bodyPost_ret (results5 rfl _ _ _) rfl ?_
    exact ⟨ret_plain rfl (pos_isEmpty D1), Below.refl _ _⟩
  | cons c R2 =>
    rw [hR] at e2
    have hR2l : R2.length + 1 ≤ r.length := by
      have := congrArg List.length hR
      simp at this; omega
    clear hR
    have hR1 : (bs (c :: R2)).size = R2.length + 1 := by rw [bs_size]; rfl
    have hget := bs_get0 c R2
    simp only
    by_cases hc : c = 46
    · subst hc
      rw [if_pos rfl]
      have hx := bs_tail 46 R2
      have hR2 := bs_size R2
      have hl2 : R2.length ≤ 1000000 := by omega
      obtain ⟨hn2, f1, f2, hD2⟩ := plainFacts R2 hl2
      have hD2s := bs_size (R2.take (digN R2))
      have hR3 := bs_size (R2.drop (digN R2))
      have hD2l : (R2.take (digN R2)).length ≤ R2.length := by simp; omega
      generalize R2.take (digN R2) = D2 at *
      generalize R2.drop (digN R2) = R3 at *
      generalize digN R2 = n2 at *
      have hcat := bs_append D1 D2
      have hcs : (bs (D1 ++ D2)).size = D1.length + D2.length := by rw [bs_size]; simp
      by_cases h3 : R3 = []
      · subst h3
        have hR30 : (bs []).size = 0 := rfl
        have hfin : Hid (decide ((0 : Int) < (D1.length : Int) + (D2.length : Int)) = (([] : List UInt8).isEmpty && !(D1 ++ D2).isEmpty)) := by
          refine hid ?_
          cases D1 <;> cases D2 <;> simp <;> omega
        have hs0 : (bs (45 :: r)).size = r.length + 1 := by rw [bs_size]; rfl
        have hg0 := bs_get0 45 r
        have hx0 := bs_tail 45 r
        go_enter Tryz.func173, Tryz.ntmps173
        go_wp2_with first | (go_at_call_of 80 (Value.string (bs r)); go_must (refine (hD _).mono ?_); rintro e w1 ⟨rfl, rfl⟩) | (go_at_call_of 80 (Value.string (bs R2)); go_must (refine (hD2 _).mono ?_); rintro e w2 ⟨rfl, rfl⟩)
        refine bodyPost_ret (results5 rfl _ _ _) rfl ?_
        exact ⟨ret_plain rfl hfin.out, Below.refl _ _⟩
      · have hz : ((R3.length : Int) == 0) = false := by
          rw [zero_isEmpty]; cases R3 <;> simp at *
        have hfin : Hid (false = (R3.isEmpty && !(D1 ++ D2).isEmpty)) := by
          refine hid ?_
          cases R3 <;> simp at *
        clear h3
        have hs0 : (bs (45 :: r)).size = r.length + 1 := by rw [bs_size]; rfl
        have hg0 := bs_get0 45 r
        have hx0 := bs_tail 45 r
        go_enter Tryz.func173, Tryz.ntmps173
        go_wp2_with first | (go_at_call_of 80 (Value.string (bs r)); go_must (refine (hD _).mono ?_); rintro e w1 ⟨rfl, rfl⟩) | (go_at_call_of 80 (Value.string (bs R2)); go_must (refine (hD2 _).mono ?_); rintro e w2 ⟨rfl, rfl⟩)
        refine bodyPost_ret (results5 rfl _ _ _) rfl ?_
        exact ⟨ret_plain rfl hfin.out, Below.refl _ _⟩
    · rw [if_neg hc]
      have hc2 : ((c.toNat : Int) == 46) = false := by
        rw [beq_eq_false_iff_ne]; intro h; exact hc (UInt8.toNat_inj.1 (by show c.toNat = 46; omega))
      have hz : ((R2.length : Int) + 1 == 0) = false := by rw [beq_eq_false_iff_ne]; omega
      clear hc
      have hs0 : (bs (45 :: r)).size = r.length + 1 := by rw [bs_size]; rfl
      have hg0 := bs_get0 45 r
      have hx0 := bs_tail 45 r
      go_enter Tryz.func173, Tryz.ntmps173
      go_wp2_with first | (go_at_call_of 80 (Value.string (bs r)); go_must (refine (hD _).mono ?_); rintro e w1 ⟨rfl, rfl⟩)
      refine bodyPost_ret (results5 rfl _ _ _) rfl ?_
      exact ⟨ret_plain rfl rfl, Below.refl _ _⟩

set_option maxRecDepth 100000 in
set_option maxHeartbeats 4000000 in
theorem ref_plain_plus (r : List UInt8) (w : World) (hl : r.length + 1 ≤ 1000000) :
    Calls Tryz.prog 173 #[.string (bs (43 :: r))] w fun e w' => e = .returned (.tuple #[.bool false, .string (bs (plainR r).1), .int .i64 (plainR r).2.1, .bool (plainR r).2.2.1, .bool (plainR r).2.2.2]) ∧ Below w.heap.size w w' := by
  have hl1 : r.length ≤ 1000000 := by omega
  obtain ⟨hn1, e1, e2, hD⟩ := plainFacts r hl1
  have hP : plainR r = plainR r := rfl
  unfold plainR at hP ⊢
  clear hP
  have hr1 := bs_size r
  have hD1s := bs_size (r.take (digN r))
  have hD1l : (r.take (digN r)).length ≤ r.length := by simp; omega
  generalize r.take (digN r) = D1 at *
  generalize digN r = n1 at *
  cases hR : r.drop n1 with
  | nil =>
    rw [hR] at e2
    clear hR
    have hR1 : (bs []).size = 0 := rfl
    simp only
    have hs0 : (bs (43 :: r)).size = r.length + 1 := by rw [bs_size]; rfl
    have hg0 := bs_get0 43 r
    have hx0 := bs_tail 43 r
    go_enter Tryz.func173, Tryz.ntmps173
    go_wp2_with first | (go_at_call_of 80 (Value.string (bs r)); go_must (refine (hD _).mono ?_); rintro e w1 ⟨rfl, rfl⟩)
    refine bodyPost_ret (results5 rfl _ _ _) rfl ?_
    exact ⟨ret_plain rfl (pos_isEmpty D1), Below.refl _ _⟩
  | cons c R2 =>
    rw [hR] at e2
    have hR2l : R2.length + 1 ≤ r.length := by
      have := congrArg List.length hR
      simp at this; omega
    clear hR
    have hR1 : (bs (c :: R2)).size = R2.length + 1 := by rw [bs_size]; rfl
    have hget := bs_get0 c R2
    simp only
    by_cases hc : c = 46
    · subst hc
      rw [if_pos rfl]
      have hx := bs_tail 46 R2
      have hR2 := bs_size R2
      have hl2 : R2.length ≤ 1000000 := by omega
      obtain ⟨hn2, f1, f2, hD2⟩ := plainFacts R2 hl2
      have hD2s := bs_size (R2.take (digN R2))
      have hR3 := bs_size (R2.drop (digN R2))
      have hD2l : (R2.take (digN R2)).length ≤ R2.length := by simp; omega
      generalize R2.take (digN R2) = D2 at *
      generalize R2.drop (digN R2) = R3 at *
      generalize digN R2 = n2 at *
      have hcat := bs_append D1 D2
      have hcs : (bs (D1 ++ D2)).size = D1.length + D2.length := by rw [bs_size]; simp
      by_cases h3 : R3 = []
      · subst h3
        have hR30 : (bs []).size = 0 := rfl
        have hfin : Hid (decide ((0 : Int) < (D1.length : Int) + (D2.length : Int)) = (([] : List UInt8).isEmpty && !(D1 ++ D2).isEmpty)) := by
          refine hid ?_
          cases D1 <;> cases D2 <;> simp <;> omega
        have hs0 : (bs (43 :: r)).size = r.length + 1 := by rw [bs_size]; rfl
        have hg0 := bs_get0 43 r
        have hx0 := bs_tail 43 r
        go_enter Tryz.func173, Tryz.ntmps173
        go_wp2_with first | (go_at_call_of 80 (Value.string (bs r)); go_must (refine (hD _).mono ?_); rintro e w1 ⟨rfl, rfl⟩) | (go_at_call_of 80 (Value.string (bs R2)); go_must (refine (hD2 _).mono ?_); rintro e w2 ⟨rfl, rfl⟩)
        refine bodyPost_ret (results5 rfl _ _ _) rfl ?_
        exact ⟨ret_plain rfl hfin.out, Below.refl _ _⟩
      · have hz : ((R3.length : Int) == 0) = false := by
          rw [zero_isEmpty]; cases R3 <;> simp at *
        have hfin : Hid (false = (R3.isEmpty && !(D1 ++ D2).isEmpty)) := by
          refine hid ?_
          cases R3 <;> simp at *
        clear h3
        have hs0 : (bs (43 :: r)).size = r.length + 1 := by rw [bs_size]; rfl
        have hg0 := bs_get0 43 r
        have hx0 := bs_tail 43 r
        go_enter Tryz.func173, Tryz.ntmps173
        go_wp2_with first | (go_at_call_of 80 (Value.string (bs r)); go_must (refine (hD _).mono ?_); rintro e w1 ⟨rfl, rfl⟩) | (go_at_call_of 80 (Value.string (bs R2)); go_must (refine (hD2 _).mono ?_); rintro e w2 ⟨rfl, rfl⟩)
        refine bodyPost_ret (results5 rfl _ _ _) rfl ?_
        exact ⟨ret_plain rfl hfin.out, Below.refl _ _⟩
    · rw [if_neg hc]
      have hc2 : ((c.toNat : Int) == 46) = false := by
        rw [beq_eq_false_iff_ne]; intro h; exact hc (UInt8.toNat_inj.1 (by show c.toNat = 46; omega))
      have hz : ((R2.length : Int) + 1 == 0) = false := by rw [beq_eq_false_iff_ne]; omega
      clear hc
      have hs0 : (bs (43 :: r)).size = r.length + 1 := by rw [bs_size]; rfl
      have hg0 := bs_get0 43 r
      have hx0 := bs_tail 43 r
      go_enter Tryz.func173, Tryz.ntmps173
      go_wp2_with first | (go_at_call_of 80 (Value.string (bs r)); go_must (refine (hD _).mono ?_); rintro e w1 ⟨rfl, rfl⟩)
      refine bodyPost_ret (results5 rfl _ _ _) rfl ?_
      exact ⟨ret_plain rfl rfl, Below.refl _ _⟩

set_option maxRecDepth 100000 in
set_option maxHeartbeats 4000000 in
theorem ref_plain_none (r : List UInt8) (w : World) (hl : r.length ≤ 1000000) (b0 : UInt8) (r' : List UInt8) (hr' : r = b0 :: r') (hb45 : b0 ≠ 45) (hb43 : b0 ≠ 43) :
    Calls Tryz.prog 173 #[.string (bs r)] w fun e w' => e = .returned (.tuple #[.bool false, .string (bs (plainR r).1), .int .i64 (plainR r).2.1, .bool (plainR r).2.2.1, .bool (plainR r).2.2.2]) ∧ Below w.heap.size w w' := by
  have hl1 : r.length ≤ 1000000 := by omega
  obtain ⟨hn1, e1, e2, hD⟩ := plainFacts r hl1
  have hP : plainR r = plainR r := rfl
  unfold plainR at hP ⊢
  clear hP
  have hr1 := bs_size r
  have hD1s := bs_size (r.take (digN r))
  have hD1l : (r.take (digN r)).length ≤ r.length := by simp; omega
  generalize r.take (digN r) = D1 at *
  generalize digN r = n1 at *
  cases hR : r.drop n1 with
  | nil =>
    rw [hR] at e2
    clear hR
    have hR1 : (bs []).size = 0 := rfl
    simp only
    have hg0 : ∀ h, (bs r)[0]'h = b0 := by subst hr'; exact bs_get0 b0 r'
    have hrl : 0 < r.length := by rw [hr']; simp
    have e45 : ((b0.toNat : Int) == 45) = false := by rw [beq_eq_false_iff_ne]; intro h; exact hb45 (UInt8.toNat_inj.1 (by show b0.toNat = 45; omega))
    have e43 : ((b0.toNat : Int) == 43) = false := by rw [beq_eq_false_iff_ne]; intro h; exact hb43 (UInt8.toNat_inj.1 (by show b0.toNat = 43; omega))
    clear hr' hb45 hb43
    go_enter Tryz.func173, Tryz.ntmps173
    go_wp2_with first | (go_at_call_of 80 (Value.string (bs r)); go_must (refine (hD _).mono ?_); rintro e w1 ⟨rfl, rfl⟩)
    refine bodyPost_ret (results5 rfl _ _ _) rfl ?_
    exact ⟨ret_plain rfl (pos_isEmpty D1), Below.refl _ _⟩
  | cons c R2 =>
    rw [hR] at e2
    have hR2l : R2.length + 1 ≤ r.length := by
      have := congrArg List.length hR
      simp at this; omega
    clear hR
    have hR1 : (bs (c :: R2)).size = R2.length + 1 := by rw [bs_size]; rfl
    have hget := bs_get0 c R2
    simp only
    by_cases hc : c = 46
    · subst hc
      rw [if_pos rfl]
      have hx := bs_tail 46 R2
      have hR2 := bs_size R2
      have hl2 : R2.length ≤ 1000000 := by omega
      obtain ⟨hn2, f1, f2, hD2⟩ := plainFacts R2 hl2
      have hD2s := bs_size (R2.take (digN R2))
      have hR3 := bs_size (R2.drop (digN R2))
      have hD2l : (R2.take (digN R2)).length ≤ R2.length := by simp; omega
      generalize R2.take (digN R2) = D2 at *
      generalize R2.drop (digN R2) = R3 at *
      generalize digN R2 = n2 at *
      have hcat := bs_append D1 D2
      have hcs : (bs (D1 ++ D2)).size = D1.length + D2.length := by rw [bs_size]; simp
      by_cases h3 : R3 = []
      · subst h3
        have hR30 : (bs []).size = 0 := rfl
        have hfin : Hid (decide ((0 : Int) < (D1.length : Int) + (D2.length : Int)) = (([] : List UInt8).isEmpty && !(D1 ++ D2).isEmpty)) := by
          refine hid ?_
          cases D1 <;> cases D2 <;> simp <;> omega
        have hg0 : ∀ h, (bs r)[0]'h = b0 := by subst hr'; exact bs_get0 b0 r'
        have hrl : 0 < r.length := by rw [hr']; simp
        have e45 : ((b0.toNat : Int) == 45) = false := by rw [beq_eq_false_iff_ne]; intro h; exact hb45 (UInt8.toNat_inj.1 (by show b0.toNat = 45; omega))
        have e43 : ((b0.toNat : Int) == 43) = false := by rw [beq_eq_false_iff_ne]; intro h; exact hb43 (UInt8.toNat_inj.1 (by show b0.toNat = 43; omega))
        clear hr' hb45 hb43
        go_enter Tryz.func173, Tryz.ntmps173
        go_wp2_with first | (go_at_call_of 80 (Value.string (bs r)); go_must (refine (hD _).mono ?_); rintro e w1 ⟨rfl, rfl⟩) | (go_at_call_of 80 (Value.string (bs R2)); go_must (refine (hD2 _).mono ?_); rintro e w2 ⟨rfl, rfl⟩)
        refine bodyPost_ret (results5 rfl _ _ _) rfl ?_
        exact ⟨ret_plain rfl hfin.out, Below.refl _ _⟩
      · have hz : ((R3.length : Int) == 0) = false := by
          rw [zero_isEmpty]; cases R3 <;> simp at *
        have hfin : Hid (false = (R3.isEmpty && !(D1 ++ D2).isEmpty)) := by
          refine hid ?_
          cases R3 <;> simp at *
        clear h3
        have hg0 : ∀ h, (bs r)[0]'h = b0 := by subst hr'; exact bs_get0 b0 r'
        have hrl : 0 < r.length := by rw [hr']; simp
        have e45 : ((b0.toNat : Int) == 45) = false := by rw [beq_eq_false_iff_ne]; intro h; exact hb45 (UInt8.toNat_inj.1 (by show b0.toNat = 45; omega))
        have e43 : ((b0.toNat : Int) == 43) = false := by rw [beq_eq_false_iff_ne]; intro h; exact hb43 (UInt8.toNat_inj.1 (by show b0.toNat = 43; omega))
        clear hr' hb45 hb43
        go_enter Tryz.func173, Tryz.ntmps173
        go_wp2_with first | (go_at_call_of 80 (Value.string (bs r)); go_must (refine (hD _).mono ?_); rintro e w1 ⟨rfl, rfl⟩) | (go_at_call_of 80 (Value.string (bs R2)); go_must (refine (hD2 _).mono ?_); rintro e w2 ⟨rfl, rfl⟩)
        refine bodyPost_ret (results5 rfl _ _ _) rfl ?_
        exact ⟨ret_plain rfl hfin.out, Below.refl _ _⟩
    · rw [if_neg hc]
      have hc2 : ((c.toNat : Int) == 46) = false := by
        rw [beq_eq_false_iff_ne]; intro h; exact hc (UInt8.toNat_inj.1 (by show c.toNat = 46; omega))
      have hz : ((R2.length : Int) + 1 == 0) = false := by rw [beq_eq_false_iff_ne]; omega
      clear hc
      have hg0 : ∀ h, (bs r)[0]'h = b0 := by subst hr'; exact bs_get0 b0 r'
      have hrl : 0 < r.length := by rw [hr']; simp
      have e45 : ((b0.toNat : Int) == 45) = false := by rw [beq_eq_false_iff_ne]; intro h; exact hb45 (UInt8.toNat_inj.1 (by show b0.toNat = 45; omega))
      have e43 : ((b0.toNat : Int) == 43) = false := by rw [beq_eq_false_iff_ne]; intro h; exact hb43 (UInt8.toNat_inj.1 (by show b0.toNat = 43; omega))
      clear hr' hb45 hb43
      go_enter Tryz.func173, Tryz.ntmps173
      go_wp2_with first | (go_at_call_of 80 (Value.string (bs r)); go_must (refine (hD _).mono ?_); rintro e w1 ⟨rfl, rfl⟩)
      refine bodyPost_ret (results5 rfl _ _ _) rfl ?_
      exact ⟨ret_plain rfl rfl, Below.refl _ _⟩

theorem ref_plain (l : List UInt8) (w : World) (hl : l.length ≤ 1000000) :
    Calls Tryz.prog 173 #[.string (bs l)] w fun e w' => e = .returned (.tuple #[.bool (signedL l).1, .string (bs (plainR (signedL l).2).1), .int .i64 (plainR (signedL l).2).2.1, .bool (plainR (signedL l).2).2.2.1, .bool (plainR (signedL l).2).2.2.2]) ∧ Below w.heap.size w w' := by
  cases l with
  | nil =>
    have hD := fun w => ref_Digits [] w (by simp)
    have hs : (bs []).size = 0 := rfl
    have hx : (bs []).extract 0 0 = bs [] := rfl
    have e0 : digN [] = 0 := rfl
    rw [e0] at hD
    go_enter Tryz.func173, Tryz.ntmps173
    go_wp2_with (go_at_call 80; go_must (refine (hD _).mono ?_); rintro e w1 ⟨rfl, rfl⟩)
    refine bodyPost_ret (results5 rfl _ _ _) rfl ?_
    exact ⟨rfl, Below.refl _ _⟩
  | cons c t =>
    by_cases h1 : c = 45
    · subst h1
      have e : signedL (45 :: t) = (true, t) := by simp [signedL]
      rw [e]; exact ref_plain_minus t w hl
    · by_cases h2 : c = 43
      · subst h2
        have e : signedL (43 :: t) = (false, t) := by simp [signedL]
        rw [e]; exact ref_plain_plus t w hl
      · have e : signedL (c :: t) = (false, c :: t) := by simp [signedL, h1, h2]
        rw [e]; exact ref_plain_none (c :: t) w hl c t rfl h1 h2

end Go.Proofs.YtjghbcjnplcleaaGreatDoor
