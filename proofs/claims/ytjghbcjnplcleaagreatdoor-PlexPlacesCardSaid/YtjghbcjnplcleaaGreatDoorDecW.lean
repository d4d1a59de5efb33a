/-
  dec.Parse and ref.Parse: both return the same number of the same text, or false.
-/
import Derived.Test.YtjghbcjnplcleaaGreatDoorDecQ
namespace Go.Proofs.YtjghbcjnplcleaaGreatDoor
open Go.RowKit

theorem dec_value (minus : Bool) (whole rest : List UInt8) (w : World) (h2 : rest.length ≤ 3000) (h3 : ∀ c ∈ whole, isDig c = true) (h4 : ∀ c ∈ rest, isDig c = true) :
    Calls Tryz.prog 160 #[.bool minus, .string (bs whole), .string (bs rest)] w fun e w' => e = .returned (.tuple #[.int .i64 (valueL minus whole rest).1, .bool (valueL minus whole rest).2]) ∧ Below w.heap.size w w' := by
  by_cases hb : 5 < (whole.dropWhile (· == 48)).length
  · have hv : valueL minus whole rest = (0, false) := by unfold valueL rawL; rw [if_pos hb]
    rw [hv]
    exact dec_value_big minus whole rest w hb
  · exact dec_value_fit minus whole rest w (by omega) h2 h3 h4

/-- the number of a text, or false -/
def parseL (l : List UInt8) : Int × Bool :=
  if mantOk (signedL l).2 then
    (if (valueL (signedL l).1 (cutDot (signedL l).2).1 (cutDot (signedL l).2).2.1).2 then ((valueL (signedL l).1 (cutDot (signedL l).2).1 (cutDot (signedL l).2).2.1).1, true) else (0, false))
  else (0, false)

theorem signedL_len (l : List UInt8) : (signedL l).2.length ≤ l.length := by
  cases l with
  | nil => simp [signedL]
  | cons c r =>
    simp only [signedL]
    split
    · simp
    · split <;> simp
theorem mantOk_digits (l : List UInt8) (h : mantOk l = true) : (∀ c ∈ (cutDot l).1, isDig c = true) ∧ (∀ c ∈ (cutDot l).2.1, isDig c = true) := by
  simp only [mantOk, Bool.and_eq_true, List.all_eq_true] at h
  exact ⟨h.1.1, h.1.2⟩

theorem dec_Parse_long (l : List UInt8) (w : World) (hl : 64 < l.length) :
    Calls Tryz.prog 114 #[.string (bs l)] w fun e w' => e = .returned (.tuple #[.int .i64 0, .bool false]) ∧ w = w' := by
  have hs := bs_size l
  go_enter Tryz.func114, Tryz.ntmps114
  go_wp2_with fail
  go_ret2
  exact ⟨rfl, rfl⟩

set_option maxHeartbeats 1000000 in
theorem dec_Parse_short (l : List UInt8) (w : World) (hl : l.length ≤ 64) :
    Calls Tryz.prog 114 #[.string (bs l)] w fun e w' => e = .returned (.tuple #[.int .i64 (parseL l).1, .bool (parseL l).2]) ∧ Below w.heap.size w w' := by
  have hs := bs_size l
  have hS := fun w => dec_signed l w (by omega)
  have hlen := signedL_len l
  have hP : parseL l = (if mantOk (signedL l).2 then (if (valueL (signedL l).1 (cutDot (signedL l).2).1 (cutDot (signedL l).2).2.1).2 then ((valueL (signedL l).1 (cutDot (signedL l).2).1 (cutDot (signedL l).2).2.1).1, true) else (0, false)) else (0, false)) := rfl
  generalize signedL l = sr at *
  obtain ⟨m, r⟩ := sr
  simp only at hP hS hlen
  have hM := fun w => dec_mantissa r w (by omega)
  have hcl := cutDot_len r
  have hok := mantOk_digits r
  generalize mantOk r = ok at *
  generalize cutDot r = p at *
  obtain ⟨A, B, f⟩ := p
  simp only at hP hM hok hcl
  cases ok with
  | false =>
    rw [if_neg (by decide)] at hP
    have HP := hid hP; clear hP hok
    go_enter Tryz.func114, Tryz.ntmps114
    go_wp2_with first | (go_at_call 158; go_must (refine (hS _).mono ?_); rintro e w1 ⟨rfl, hb1⟩) | (go_at_call 159; go_must (refine (hM _).mono ?_); rintro e w2 ⟨rfl, hb2⟩)
    go_ret2
    exact ⟨by rw [HP.out]; rfl, btr hb1 hb2⟩
  | true =>
    rw [if_pos rfl] at hP
    obtain ⟨hA, hB⟩ := hok rfl
    have hV := fun w => dec_value m A B w (by omega) hA hB
    have HA := hid hA; have HB := hid hB; clear hok hA hB
    generalize valueL m A B = v at *
    obtain ⟨n, fit⟩ := v
    simp only at hP hV
    have HP := hid hP; clear hP
    cases fit
    all_goals
      go_enter Tryz.func114, Tryz.ntmps114
      go_wp2_with first | (go_at_call 158; go_must (refine (hS _).mono ?_); rintro e w1 ⟨rfl, hb1⟩) | (go_at_call 159; go_must (refine (hM _).mono ?_); rintro e w2 ⟨rfl, hb2⟩) | (go_at_call 160; go_must (refine (hV _).mono ?_); rintro e w3 ⟨rfl, hb3⟩)
      go_ret2
      exact ⟨by rw [HP.out]; rfl, btr (btr hb1 hb2) hb3⟩

set_option maxHeartbeats 1000000 in
theorem ref_signed (n : Int) (m : Bool) (w : World) (h : -1000000000000 ≤ n) (h' : n ≤ 1000000000000) :
    Calls Tryz.prog 175 #[.int .i64 n, .bool m] w fun e w' => e = .returned (.tuple #[.int .i64 (if fitsB (if m then -n else n) then (if m then -n else n) else 0), .bool (fitsB (if m then -n else n))]) ∧ w = w' := by
  cases m with
  | true =>
    have hF := fun w => ref_Fits (-n) w
    simp only [if_true]
    cases hf : fitsB (-n)
    all_goals
      rw [hf] at hF
      clear hf
      go_enter Tryz.func175, Tryz.ntmps175
      go_wp2_with (go_at_call 62; go_must (refine (hF _).mono ?_); rintro e w1 ⟨rfl, rfl⟩)
      go_ret2
      exact ⟨rfl, rfl⟩
  | false =>
    have hF := fun w => ref_Fits n w
    simp only [Bool.false_eq_true, if_false]
    cases hf : fitsB n
    all_goals
      rw [hf] at hF
      clear hf
      go_enter Tryz.func175, Tryz.ntmps175
      go_wp2_with (go_at_call 62; go_must (refine (hF _).mono ?_); rintro e w1 ⟨rfl, rfl⟩)
      go_ret2
      exact ⟨rfl, rfl⟩

theorem wholeD_digits (digits : List UInt8) (p : Int) (h : ∀ c ∈ digits, isDig c = true) : ∀ c ∈ wholeD digits p, isDig c = true := by
  intro c hc
  rw [wholeD, List.mem_append] at hc
  rcases hc with hc | hc
  · exact h c (List.mem_of_mem_take hc)
  · rw [List.mem_replicate] at hc; rw [hc.2]; rfl
theorem restD_digits (digits : List UInt8) (p : Int) (h : ∀ c ∈ digits, isDig c = true) : ∀ c ∈ restD digits p, isDig c = true := by
  intro c hc
  rw [restD, List.mem_append] at hc
  rcases hc with hc | hc
  · rw [List.mem_replicate] at hc; rw [hc.2]; rfl
  · exact h c (List.mem_of_mem_drop hc)

theorem ref_scaled (digits : List UInt8) (p : Int) (w : World) (hl : digits.length ≤ 1000) (hp0 : -2000 ≤ p) (hp : p ≤ 2000) (hdig : ∀ c ∈ digits, isDig c = true) :
    Calls Tryz.prog 174 #[.string (bs digits), .int .i64 p] w fun e w' => e = .returned (.tuple #[.int .i64 ((rawL (wholeD digits p) (restD digits p)).getD 0), .bool (rawL (wholeD digits p) (restD digits p)).isSome]) ∧ Below w.heap.size w w' := by
  by_cases hbig : 99999 < natOf (wholeD digits p)
  · rw [rawL_big _ _ (wholeD_digits digits p hdig) hbig]
    exact (ref_scaled_big digits p w hp hdig hbig).mono fun e w' ⟨h1, h2⟩ => ⟨h1, h2 ▸ Below.refl _ _⟩
  · rw [rawL_fit _ _ (wholeD_digits digits p hdig) (restD_digits digits p hdig) (by omega) _ _ rfl]
    exact ref_scaled_fit digits p w hl hp0 hp hdig (by omega)

theorem rounds_bound (k : Nat) : ∀ (n : Int) (d : List Nat), (∀ x ∈ d, x < 10) → 0 ≤ n → 0 ≤ (rounds k n d).1 ∧ (rounds k n d).1 + 1 ≤ (n + 1) * 2 ^ k := by
  induction k with
  | zero => intro n d _ h; simp [rounds]; omega
  | succ k ih =>
    intro n d hd h
    have hc := dbl_carry d hd
    have h1 := ih (2 * n + (dbl d).2) (dbl d).1 (dbl_digits d) (by omega)
    rw [rounds, Int.pow_succ]
    refine ⟨h1.1, Int.le_trans h1.2 ?_⟩
    have h2 : (2 * n + ((dbl d).2 : Int) + 1) * 2 ^ k ≤ (2 * (n + 1)) * 2 ^ k := Int.mul_le_mul_of_nonneg_right (by omega) (by exact_mod_cast Nat.zero_le _)
    rw [Int.mul_comm (2 ^ k) 2, ← Int.mul_assoc, Int.mul_comm (n + 1) 2]
    exact h2
theorem rawL_bound (W R : List UInt8) (h : ∀ c ∈ W, isDig c = true) (hR : ∀ c ∈ R, isDig c = true) (n : Int) (hn : rawL W R = some n) : 0 ≤ n ∧ n ≤ 6553600000 := by
  unfold rawL at hn
  split at hn
  · cases hn
  · next hl =>
    have ht : ∀ c ∈ W.dropWhile (· == 48), isDig c = true := fun c hc => h c (List.dropWhile_sublist _ |>.subset hc)
    have h1 := natOf_lt _ ht
    have h2 : 10 ^ (W.dropWhile (· == 48)).length ≤ 10 ^ 5 := Nat.pow_le_pow_right (by decide) (by omega)
    have h3 := rounds_bound 16 (natOf (W.dropWhile (· == 48))) (digitsOf R) (digitsOf_lt R hR) (by omega)
    have h4 := dbl_carry _ (rounds_digits 16 (natOf (W.dropWhile (· == 48))) _ (digitsOf_lt R hR))
    generalize natOf (W.dropWhile (· == 48)) = N at *
    generalize rounds 16 (N : Int) (digitsOf R) = q at *
    have e : (2 : Int) ^ 16 = 65536 := by decide
    rw [e] at h3
    have hn' : q.1 + ((dbl q.2).2 : Int) = n := by simpa using hn
    omega

/-- the sign, and does it fit -/
def signL2 (m : Bool) (o : Option Int) : Int × Bool :=
  match o with
  | none => (0, false)
  | some n => if fitsB (if m then -n else n) then (if m then -n else n, true) else (0, false)
theorem parseL_eq (l : List UInt8) : parseL l = if mantOk (signedL l).2 then signL2 (signedL l).1 (rawL (cutDot (signedL l).2).1 (cutDot (signedL l).2).2.1) else (0, false) := by
  unfold parseL
  split
  · unfold valueL signL2
    cases rawL (cutDot (signedL l).2).1 (cutDot (signedL l).2).2.1 with
    | none => rfl
    | some n =>
      simp only
  · rfl

theorem ref_Parse_long (l : List UInt8) (w : World) (hl : 64 < l.length) :
    Calls Tryz.prog 117 #[.string (bs l)] w fun e w' => e = .returned (.tuple #[.int .i64 0, .bool false]) ∧ w = w' := by
  have hs := bs_size l
  go_enter Tryz.func117, Tryz.ntmps117
  go_wp2_with fail
  go_ret2
  exact ⟨rfl, rfl⟩

theorem wholeD_at_point (A B : List UInt8) : wholeD (A ++ B) (A.length : Int) = A := by
  unfold wholeD
  have e : ((A.length : Int)).toNat = A.length := by omega
  rw [e]
  simp
theorem restD_at_point (A B : List UInt8) : restD (A ++ B) (A.length : Int) = B := by
  unfold restD
  have e : ((A.length : Int)).toNat = A.length := by omega
  have e2 : (-(A.length : Int)).toNat = 0 := by omega
  rw [e, e2]
  simp

set_option maxHeartbeats 1000000 in
theorem ref_Parse_short (l : List UInt8) (w : World) (hl : l.length ≤ 64) :
    Calls Tryz.prog 117 #[.string (bs l)] w fun e w' => e = .returned (.tuple #[.int .i64 (parseL l).1, .bool (parseL l).2]) ∧ Below w.heap.size w w' := by
  have hs := bs_size l
  have hS := fun w => ref_plain l w (by omega)
  have hlen := signedL_len l
  have hP := parseL_eq l
  generalize signedL l = sr at *
  obtain ⟨m, r⟩ := sr
  simp only at hP hS hlen
  have hcl := cutDot_len r
  have hok := mantOk_digits r
  obtain ⟨hp1, hp2⟩ := plain_mant r
  generalize mantOk r = ok at *
  generalize cutDot r = p at *
  obtain ⟨A, B, f⟩ := p
  generalize plainR r = q at *
  obtain ⟨D, a, g, o⟩ := q
  simp only at hP hok hcl hp1 hp2 hS
  subst hp1
  cases o with
  | false =>
    rw [if_neg (by decide)] at hP
    have HP := hid hP; clear hP hok hp2
    go_enter Tryz.func117, Tryz.ntmps117
    go_wp2_with (go_at_call 173; go_must (refine (hS _).mono ?_); rintro e w1 ⟨rfl, hb1⟩)
    go_ret2
    exact ⟨by rw [HP.out]; rfl, hb1⟩
  | true =>
    rw [if_pos rfl] at hP
    obtain ⟨hA, hB⟩ := hok rfl
    have hq := hp2 rfl
    simp only [Prod.mk.injEq] at hq
    obtain ⟨rfl, rfl, rfl, -⟩ := hq
    have hAB : ∀ c ∈ A ++ B, isDig c = true := by
      intro c hc
      rcases List.mem_append.1 hc with h | h
      · exact hA c h
      · exact hB c h
    have hSc := fun w => ref_scaled (A ++ B) (A.length : Int) w (by simp; omega) (by omega) (by omega) hAB
    rw [wholeD_at_point, restD_at_point] at hSc
    have hbd := rawL_bound A B hA hB
    have HA := hid hA; have HB := hid hB; have HAB := hid hAB; clear hok hA hB hAB hp2
    generalize rawL A B = v at *
    cases v with
    | none =>
      have HP := hid hP; clear hP hbd
      simp only [Option.getD_none, Option.isSome_none] at hSc
      go_enter Tryz.func117, Tryz.ntmps117
      go_wp2_with first | (go_at_call 173; go_must (refine (hS _).mono ?_); rintro e w1 ⟨rfl, hb1⟩) | (go_at_call 174; go_must (refine (hSc _).mono ?_); rintro e w2 ⟨rfl, hb2⟩)
      go_ret2
      exact ⟨by rw [HP.out]; rfl, btr hb1 hb2⟩
    | some n =>
      simp only [Option.getD_some, Option.isSome_some] at hSc
      obtain ⟨hn0, hn1⟩ := hbd n rfl
      clear hbd
      have hSg := fun w => ref_signed n m w (by omega) (by omega)
      have hP2 : parseL l = ((if fitsB (if m then -n else n) then (if m then -n else n) else 0), fitsB (if m then -n else n)) := by
        rw [hP]; unfold signL2; simp only
        cases fitsB (if m then -n else n) <;> rfl
      have HP := hid hP2; clear hP hP2
      generalize fitsB (if m then -n else n) = ft at *
      generalize (if ft then (if m then -n else n) else 0) = res at *
      go_enter Tryz.func117, Tryz.ntmps117
      go_wp2_with first | (go_at_call 173; go_must (refine (hS _).mono ?_); rintro e w1 ⟨rfl, hb1⟩) | (go_at_call 174; go_must (refine (hSc _).mono ?_); rintro e w2 ⟨rfl, hb2⟩) | (go_at_call 175; go_must (refine (hSg _).mono ?_); rintro e w3 ⟨rfl, rfl⟩)
      go_ret2
      exact ⟨by rw [HP.out]; rfl, btr hb1 hb2⟩

end Go.Proofs.YtjghbcjnplcleaaGreatDoor
