/-
  Plain: the text of a number is read as that number.
-/
import Derived.Test.YteaohajihhpnmaaDoorTokP
import Derived.Test.YteaohajihhpnmaaDoorDecC
namespace Go.Proofs.YteaohajihhpnmaaDoor

/-- the number that digits write -/
def valD : List Nat → Nat
  | [] => 0
  | x :: r => x * 10 ^ r.length + valD r
theorem valD_lt (d : List Nat) (h : ∀ x ∈ d, x < 10) : valD d < 10 ^ d.length := by
  induction d with
  | nil => simp [valD]
  | cons x r ih =>
    have h1 := ih fun y hy => h y (by simp [hy])
    have h2 := h x (by simp)
    rw [valD, List.length_cons, Nat.pow_succ]
    have h3 : x * 10 ^ r.length ≤ 9 * 10 ^ r.length := Nat.mul_le_mul_right _ (by omega)
    omega
theorem valD_append (a b : List Nat) : valD (a ++ b) = valD a * 10 ^ b.length + valD b := by
  induction a with
  | nil => simp [valD]
  | cons x r ih =>
    rw [List.cons_append, valD, valD, ih, List.length_append, Nat.pow_add, Nat.add_mul, Nat.mul_assoc, Nat.add_assoc]
theorem valD_zeros (k : Nat) : valD (List.replicate k 0) = 0 := by
  induction k with
  | zero => rfl
  | succ k ih => rw [List.replicate_succ, valD, ih]; simp
theorem dbl_val (d : List Nat) : valD (dbl d).1 + (dbl d).2 * 10 ^ d.length = 2 * valD d := by
  induction d with
  | nil => rfl
  | cons x r ih =>
    have hl := dbl_len r
    simp only [dbl, valD, hl, List.length_cons, Nat.pow_succ]
    have h1 : (2 * x + (dbl r).2) % 10 + 10 * ((2 * x + (dbl r).2) / 10) = 2 * x + (dbl r).2 := Nat.mod_add_div _ _
    have h2 : ((2 * x + (dbl r).2) % 10) * 10 ^ r.length + (2 * x + (dbl r).2) / 10 * (10 ^ r.length * 10) = (2 * x + (dbl r).2) * 10 ^ r.length := by
      conv => rhs; rw [← h1, Nat.add_mul]
      rw [Nat.mul_comm (10 ^ r.length) 10, ← Nat.mul_assoc, Nat.mul_comm _ 10]
    have h3 : (2 * x + (dbl r).2) * 10 ^ r.length = 2 * (x * 10 ^ r.length) + (dbl r).2 * 10 ^ r.length := by rw [Nat.add_mul, Nat.mul_assoc]
    omega
theorem rounds_len (k : Nat) : ∀ (n : Int) (d : List Nat), (rounds k n d).2.length = d.length := by
  induction k with
  | zero => intro n d; rfl
  | succ k ih => intro n d; rw [rounds, ih, dbl_len]
theorem rounds_val (k : Nat) : ∀ (n : Nat) (d : List Nat), ∃ m : Nat, (rounds k (n : Int) d).1 = (m : Int) ∧ m * 10 ^ d.length + valD (rounds k (n : Int) d).2 = 2 ^ k * (n * 10 ^ d.length + valD d) := by
  induction k with
  | zero => intro n d; exact ⟨n, rfl, by simp [rounds]⟩
  | succ k ih =>
    intro n d
    obtain ⟨m, h1, h2⟩ := ih (2 * n + (dbl d).2) (dbl d).1
    rw [dbl_len] at h2
    have hv := dbl_val d
    have hc : ((2 * n + (dbl d).2 : Nat) : Int) = 2 * (n : Int) + ((dbl d).2 : Int) := by omega
    rw [rounds, ← hc]
    refine ⟨m, h1, h2.trans ?_⟩
    rw [Nat.pow_succ, Nat.mul_assoc]
    congr 1
    rw [Nat.add_mul, Nat.mul_assoc]
    omega

theorem natOf_valD (l : List UInt8) : natOf l = valD (digitsOf l) := by
  have key : ∀ (l : List UInt8) (n : Nat), l.foldl (fun n c => 10 * n + (c.toNat - 48)) n = n * 10 ^ l.length + valD (digitsOf l) := by
    intro l
    induction l with
    | nil => intro n; simp [digitsOf, valD]
    | cons c r ih =>
      intro n
      have hl : (digitsOf r).length = r.length := digitsOf_len r
      have hd : digitsOf (c :: r) = (c.toNat - 48) :: digitsOf r := rfl
      rw [List.foldl_cons, ih, hd, valD, hl, List.length_cons, Nat.pow_succ, Nat.add_mul, Nat.mul_comm 10 n, Nat.mul_assoc, Nat.mul_comm 10 (10 ^ r.length), Nat.add_assoc]
  have := key l 0
  rw [Nat.zero_mul, Nat.zero_add] at this
  exact this

/-- digits behind the point that are exactly so many of 65536 -/
theorem rawL_exact (W R : List UInt8) (N f : Nat) (hW : ∀ c ∈ W, isDig c = true) (hN : natOf W = N) (hN5 : N ≤ 99999) (hR : ∀ c ∈ R, isDig c = true) (hv : valD (digitsOf R) * 65536 = f * 10 ^ R.length) :
    rawL W R = some ((N * 65536 + f : Nat) : Int) := by
  have ht : ¬ 5 < (W.dropWhile (· == 48)).length := fun h => by have := (trim_long W hW).1 h; omega
  unfold rawL
  rw [if_neg ht, natOf_trim, hN]
  obtain ⟨m, h1, h2⟩ := rounds_val 16 N (digitsOf R)
  have hd := rounds_digits 16 (N : Int) (digitsOf R) (digitsOf_lt R hR)
  have hl := rounds_len 16 (N : Int) (digitsOf R)
  have hlt := valD_lt _ hd
  rw [digitsOf_len] at h2 hl
  rw [hl] at hlt
  have hv2 := dbl_val (rounds 16 (N : Int) (digitsOf R)).2
  rw [hl] at hv2
  generalize (rounds 16 (N : Int) (digitsOf R)).2 = D at *
  generalize hP : 10 ^ R.length = P at *
  have hP0 : 0 < P := by rw [← hP]; exact Nat.pow_pos (by decide)
  have e : m * P + valD D = (N * 65536 + f) * P := by
    rw [h2, Nat.add_mul, ← hv]
    have : (2 : Nat) ^ 16 = 65536 := by decide
    rw [this, Nat.mul_add, ← Nat.mul_assoc, Nat.mul_comm 65536 N, Nat.mul_comm 65536 (valD _)]
  have hm : m = N * 65536 + f := by
    have a : (m * P + valD D) / P = m := by rw [Nat.mul_comm, Nat.mul_add_div hP0, Nat.div_eq_of_lt hlt]; rfl
    have b : ((N * 65536 + f) * P) / P = N * 65536 + f := Nat.mul_div_cancel _ hP0
    rw [← a, e, b]
  have hD : valD D = 0 := by rw [hm] at e; omega
  have hc : (dbl D).2 = 0 := by
    rw [hD] at hv2
    rcases Nat.eq_zero_or_pos (dbl D).2 with h | h
    · exact h
    · have := Nat.mul_le_mul_right P h; omega
  rw [h1, hc, hm, Int.natCast_zero, Int.add_zero]

theorem isDig_ch (k : Nat) (h : k < 10) : isDig (ch (48 + (k : Int))) = true ∧ (ch (48 + (k : Int))).toNat = 48 + k := by
  have e : (ch (48 + (k : Int))).toNat = 48 + k := by
    unfold ch
    rw [show (48 + (k : Int)).toNat = 48 + k by omega, UInt8.toNat_ofNat']
    omega
  exact ⟨by unfold isDig; rw [e, decide_eq_true (show 48 ≤ 48 + k by omega), decide_eq_true (show 48 + k ≤ 57 by omega)]; rfl, e⟩
theorem fracK_val (k : Nat) : ∀ f : Nat, k ≤ 16 → f < 65536 → 2 ^ (16 - k) ∣ f → (∀ c ∈ fracK k f, isDig c = true) ∧ valD (digitsOf (fracK k f)) * 65536 = f * 10 ^ (fracK k f).length := by
  induction k with
  | zero =>
    intro f _ hf hd
    obtain ⟨c, hc⟩ := hd
    have : f = 0 := by simp at hc; omega
    subst this
    exact ⟨by simp [fracK], by simp [fracK, digitsOf, valD]⟩
  | succ k ih =>
    intro f hk hf hd
    rw [fracK]
    split
    · next h => subst h; exact ⟨by simp, by simp [digitsOf, valD]⟩
    · have h1 : 2 ^ (16 - k) ∣ f * 10 := by
        have e : 16 - k = (16 - (k + 1)) + 1 := by omega
        rw [e, Nat.pow_succ]
        exact Nat.mul_dvd_mul hd ⟨5, rfl⟩
      have h2 : 2 ^ (16 - k) ∣ 65536 := by
        rw [show (65536 : Nat) = 2 ^ 16 from rfl]
        exact Nat.pow_dvd_pow 2 (by omega)
      obtain ⟨i1, i2⟩ := ih (f * 10 % 65536) (by omega) (by omega) ((Nat.dvd_mod_iff h2).2 h1)
      obtain ⟨c1, c2⟩ := isDig_ch (f * 10 / 65536) (by omega)
      refine ⟨fun c hc => ?_, ?_⟩
      · rcases List.mem_cons.1 hc with rfl | hc
        · exact c1
        · exact i1 c hc
      · have hd2 : digitsOf (ch (48 + ((f * 10 / 65536 : Nat) : Int)) :: fracK k (f * 10 % 65536)) = (f * 10 / 65536) :: digitsOf (fracK k (f * 10 % 65536)) := by
          show (_ - 48) :: _ = _
          rw [c2]; congr 1; omega
        rw [hd2, valD, digitsOf_len, List.length_cons, Nat.pow_succ]
        generalize valD (digitsOf (fracK k (f * 10 % 65536))) = V at *
        generalize 10 ^ (fracK k (f * 10 % 65536)).length = P at *
        have hm := Nat.mod_add_div (f * 10) 65536
        generalize f * 10 % 65536 = r at *
        generalize f * 10 / 65536 = q at *
        rw [Nat.add_mul, i2, Nat.mul_comm P 10, ← Nat.mul_assoc, ← hm, Nat.add_mul, Nat.mul_right_comm, Nat.mul_comm q 65536]
        omega
theorem fracL_val (f : Nat) (h : f < 65536) : (∀ c ∈ fracL f, isDig c = true) ∧ valD (digitsOf (fracL f)) * 65536 = f * 10 ^ (fracL f).length :=
  fracK_val 16 f (by omega) h (by simp)
theorem digitsL_val (n : Nat) : (∀ c ∈ digitsL n, isDig c = true) ∧ natOf (digitsL n) = n ∧ digitsL n ≠ [] := by
  induction n using Nat.strongRecOn with
  | _ n ih =>
    by_cases h : n < 10
    · rw [digitsL_lt n h]
      obtain ⟨c1, c2⟩ := isDig_ch n h
      exact ⟨by simpa using c1, by simp [natOf, c2], by simp⟩
    · rw [digitsL_ge n (by omega)]
      obtain ⟨i1, i2, i3⟩ := ih (n / 10) (by omega)
      obtain ⟨c1, c2⟩ := isDig_ch (n % 10) (by omega)
      refine ⟨fun c hc => ?_, ?_, by simp⟩
      · rcases List.mem_append.1 hc with hc | hc
        · exact i1 c hc
        · rw [List.mem_singleton.1 hc]; exact c1
      · rw [natOf_snoc, i2, c2]; omega

/-- digits, then noughts -/
theorem digitsOf_append (a b : List UInt8) : digitsOf (a ++ b) = digitsOf a ++ digitsOf b := by simp [digitsOf]
theorem digitsOf_zeros (k : Nat) : digitsOf (List.replicate k 48) = List.replicate k 0 := by simp [digitsOf]
theorem val_zeros (R : List UInt8) (f k : Nat) (h : valD (digitsOf R) * 65536 = f * 10 ^ R.length) : valD (digitsOf (R ++ List.replicate k 48)) * 65536 = f * 10 ^ (R ++ List.replicate k 48).length := by
  rw [digitsOf_append, digitsOf_zeros, valD_append, valD_zeros, Nat.add_zero, List.length_append, List.length_replicate, List.length_replicate, Nat.pow_add, ← Nat.mul_assoc, ← h, Nat.mul_right_comm]
theorem natOf_zeros (k : Nat) (W : List UInt8) : natOf (List.replicate k 48 ++ W) = natOf W := by
  rw [natOf_valD, natOf_valD, digitsOf_append, digitsOf_zeros, valD_append, valD_zeros, Nat.zero_mul, Nat.zero_add]
theorem dig_zeros (k : Nat) (c : UInt8) (h : c ∈ List.replicate k (48 : UInt8)) : isDig c = true := by
  rw [List.mem_replicate] at h; rw [h.2]; rfl

/-- a sign, or none -/
def sgn (m : Option Bool) : List UInt8 := match m with | none => [] | some true => [45] | some false => [43]
def neg (m : Option Bool) : Bool := match m with | some true => true | _ => false
theorem signedL_sgn (m : Option Bool) (l : List UInt8) (h : ∀ c r, l = c :: r → isDig c = true) : signedL (sgn m ++ l) = (neg m, l) := by
  match m with
  | some true => rfl
  | some false => rfl
  | none =>
    cases l with
    | nil => rfl
    | cons c r => exact signedL_dig c r (h c r rfl)
theorem head_dig (W X : List UInt8) (hW : ∀ c ∈ W, isDig c = true) (h0 : W ≠ []) : ∀ c r, W ++ X = c :: r → isDig c = true := by
  intro c r e
  cases W with
  | nil => exact absurd rfl h0
  | cons d W =>
    simp only [List.cons_append, List.cons.injEq] at e
    rw [← e.1]; exact hW d (by simp)
theorem notdot (W : List UInt8) (hW : ∀ c ∈ W, isDig c = true) : 46 ∉ W := fun h => absurd (hW 46 h) (by decide)
theorem mant_dot (W R : List UInt8) (hW : ∀ c ∈ W, isDig c = true) (hR : ∀ c ∈ R, isDig c = true) (h0 : W ≠ []) : mantOk (W ++ 46 :: R) = true := by
  have hl : 0 < W.length := List.length_pos_iff.2 h0
  unfold mantOk
  rw [cutDot_yes R W (notdot W hW)]
  simp only [Bool.and_eq_true, List.all_eq_true, decide_eq_true_eq]
  exact ⟨⟨hW, hR⟩, by omega⟩

/-- the number of digits with a point -/
theorem parseL_dot (m : Option Bool) (W R : List UInt8) (N f : Nat) (hW : ∀ c ∈ W, isDig c = true) (h0 : W ≠ []) (hR : ∀ c ∈ R, isDig c = true) (hN : natOf W = N) (hN5 : N ≤ 99999)
    (hv : valD (digitsOf R) * 65536 = f * 10 ^ R.length) (hfit : fitsB (if neg m then -((N * 65536 + f : Nat) : Int) else ((N * 65536 + f : Nat) : Int)) = true) :
    parseL (sgn m ++ (W ++ 46 :: R)) = (if neg m then -((N * 65536 + f : Nat) : Int) else ((N * 65536 + f : Nat) : Int), true) := by
  rw [parseL_eq, signedL_sgn m _ (head_dig W _ hW h0)]
  simp only
  rw [mant_dot W R hW hR h0, if_pos rfl, cutDot_yes R W (notdot W hW)]
  simp only
  rw [rawL_exact W R N f hW hN hN5 hR hv]
  unfold signL2
  simp only [hfit, if_true]
theorem parseL_int (m : Option Bool) (W : List UInt8) (N : Nat) (hW : ∀ c ∈ W, isDig c = true) (h0 : W ≠ []) (hN : natOf W = N) (hN5 : N ≤ 99999)
    (hfit : fitsB (if neg m then -((N * 65536 : Nat) : Int) else ((N * 65536 : Nat) : Int)) = true) :
    parseL (sgn m ++ W) = (if neg m then -((N * 65536 : Nat) : Int) else ((N * 65536 : Nat) : Int), true) := by
  rw [parseL_eq, signedL_sgn m _ (by have := head_dig W [] hW h0; rwa [List.append_nil] at this)]
  simp only
  rw [mant_none W hW h0, if_pos rfl, cutDot_none W hW]
  simp only
  have h := rawL_exact W [] N 0 hW hN hN5 (by simp) (by simp [digitsOf, valD])
  rw [Nat.add_zero] at h
  rw [h]
  unfold signL2
  simp only [hfit, if_true]

/-- a number's sign and its two parts -/
theorem signL_sgn (n : Int) : signL n = sgn (if n < 0 then some true else none) := by unfold signL sgn; split <;> rfl
theorem neg_of (n : Int) : (if neg (if n < 0 then some true else none) then -((n.natAbs / 65536 * 65536 + n.natAbs % 65536 : Nat) : Int) else ((n.natAbs / 65536 * 65536 + n.natAbs % 65536 : Nat) : Int)) = n := by
  have h : n.natAbs / 65536 * 65536 + n.natAbs % 65536 = n.natAbs := by omega
  rw [h]
  by_cases hn : n < 0
  · rw [if_pos hn]; simp only [neg, if_true]; omega
  · rw [if_neg hn]; simp only [neg, Bool.false_eq_true, if_false]; omega

theorem realL_form (n : Int) : ∃ R, realL n = sgn (if n < 0 then some true else none) ++ (wholeL n ++ 46 :: R) ∧ R ≠ [] ∧ R.length ≤ 16 ∧ (∀ c ∈ R, isDig c = true) ∧ valD (digitsOf R) * 65536 = (n.natAbs % 65536) * 10 ^ R.length := by
  obtain ⟨h1, h2⟩ := fracL_val (n.natAbs % 65536) (by omega)
  unfold realL
  rw [signL_sgn]
  by_cases h0 : restL n = []
  · refine ⟨[48], by rw [if_pos h0]; simp, by simp, by simp, by simp; decide, ?_⟩
    rw [(restL_iff n).1 h0]; simp [digitsOf, valD]
  · refine ⟨restL n, by rw [if_neg h0]; simp, h0, fracL_len _, h1, h2⟩
theorem wholeL_facts (n : Int) (h1 : -2147483648 ≤ n) (h2 : n ≤ 2147483647) : (∀ c ∈ wholeL n, isDig c = true) ∧ wholeL n ≠ [] ∧ natOf (wholeL n) = n.natAbs / 65536 ∧ n.natAbs / 65536 ≤ 99999 ∧ (wholeL n).length ≤ 5 := by
  obtain ⟨a, b, c⟩ := digitsL_val (n.natAbs / 65536)
  exact ⟨a, c, b, by omega, digitsL_len 4 _ (by omega)⟩

/-- what dec.PrintReal writes, with noughts ahead and behind, and with a sign of whatever kind -/
theorem parse_real (m : Option Bool) (n : Int) (a k : Nat) (h1 : -2147483648 ≤ n) (h2 : n ≤ 2147483647) (R : List UInt8) (hR : ∀ c ∈ R, isDig c = true) (hv : valD (digitsOf R) * 65536 = (n.natAbs % 65536) * 10 ^ R.length) (hm : neg m = decide (n < 0)) :
    parseL (sgn m ++ ((List.replicate a 48 ++ wholeL n) ++ 46 :: (R ++ List.replicate k 48))) = (n, true) := by
  obtain ⟨w1, w2, w3, w4, w5⟩ := wholeL_facts n h1 h2
  have hn : (if neg m then -((n.natAbs / 65536 * 65536 + n.natAbs % 65536 : Nat) : Int) else ((n.natAbs / 65536 * 65536 + n.natAbs % 65536 : Nat) : Int)) = n := by
    have := neg_of n
    rw [hm]
    by_cases h : n < 0
    · rw [if_pos h] at this; rw [decide_eq_true h]; exact this
    · rw [if_neg h] at this; rw [decide_eq_false h]; exact this
  rw [parseL_dot m _ _ (n.natAbs / 65536) (n.natAbs % 65536) (fun c hc => (List.mem_append.1 hc).elim (dig_zeros a c) (w1 c)) (by simp [w2]) (fun c hc => (List.mem_append.1 hc).elim (hR c) (dig_zeros k c)) (by rw [natOf_zeros, w3]) w4 (val_zeros R _ k hv) (by rw [hn]; exact fitsB_yes h1 h2), hn]
theorem parse_print (n : Int) (h1 : -2147483648 ≤ n) (h2 : n ≤ 2147483647) : parseL (printL n) = (n, true) := by
  obtain ⟨w1, w2, w3, w4, w5⟩ := wholeL_facts n h1 h2
  by_cases h0 : restL n = []
  · unfold printL
    rw [if_pos h0, List.append_nil, signL_sgn]
    have hf := (restL_iff n).1 h0
    have hn := neg_of n
    rw [hf, Nat.add_zero] at hn
    rw [parseL_int _ _ _ w1 w2 w3 w4 (by rw [hn]; exact fitsB_yes h1 h2), hn]
  · obtain ⟨g1, g2⟩ := fracL_val (n.natAbs % 65536) (by omega)
    have h := parse_real (if n < 0 then some true else none) n 0 0 h1 h2 (restL n) g1 g2 (by split <;> simp_all [neg])
    unfold printL
    rw [if_neg h0, signL_sgn]
    simpa using h

theorem finL_eq (m : Bool) (r : List UInt8) (k : Int) (h : mantOk r = true) : finL m r k =
    match rawL (wholeD ((cutDot r).1 ++ (cutDot r).2.1) ((cutDot r).1.length + k)) (restD ((cutDot r).1 ++ (cutDot r).2.1) ((cutDot r).1.length + k)) with
    | none => tokGreat
    | some n => if fitsB (if m then -n else n) then tokReal (if m then -n else n) else tokGreat := by
  unfold finL
  rw [h, if_pos rfl]
  unfold valueL
  cases rawL (wholeD ((cutDot r).1 ++ (cutDot r).2.1) ((cutDot r).1.length + k)) (restD ((cutDot r).1 ++ (cutDot r).2.1) ((cutDot r).1.length + k)) with
  | none => rfl
  | some n => rfl
theorem tokenL_real (m : Option Bool) (W R : List UInt8) (N : Int) (hW : ∀ c ∈ W, isDig c = true) (h0 : W ≠ []) (hR : ∀ c ∈ R, isDig c = true) (hl : (sgn m ++ (W ++ 46 :: R)).length ≤ 64) (hp : parseL (sgn m ++ (W ++ 46 :: R)) = (N, true)) :
    tokenL (sgn m ++ (W ++ 46 :: R)) = tokReal N := by
  have hsg := signedL_sgn m (W ++ 46 :: R) (head_dig W _ hW h0)
  have hno : ∀ x : UInt8, isDig x = false → x ≠ 46 → x ≠ 45 → x ≠ 43 → x ∉ sgn m ++ (W ++ 46 :: R) := by
    intro x hx h1 h2 h3 hm
    rcases List.mem_append.1 hm with hm | hm
    · match m with
      | none => cases hm
      | some true => simp [sgn] at hm; exact h2 hm
      | some false => simp [sgn] at hm; exact h3 hm
    · rcases List.mem_append.1 hm with hm | hm
      · rw [hW x hm] at hx; cases hx
      · rcases List.mem_cons.1 hm with hm | hm
        · exact h1 hm
        · rw [hR x hm] at hx; cases hx
  have hr : radixOk (sgn m ++ (W ++ 46 :: R)) = false := by
    unfold radixOk
    rw [cutC_no 35 _ (hno 35 (by decide) (by decide) (by decide) (by decide))]; rfl
  have hw : (wholeT (sgn m ++ (W ++ 46 :: R))).2 = false := by
    unfold wholeT
    rw [hsg]
    have : (W ++ 46 :: R).all isDig = false := by
      cases h : (W ++ 46 :: R).all isDig with
      | false => rfl
      | true => exact absurd (List.all_eq_true.1 h 46 (by simp)) (by decide)
    simp [this]
  have hE : cutE (W ++ 46 :: R) = (W ++ 46 :: R, [], false) := cutE_no _ fun c hc => by
    cases h : isE c with
    | false => rfl
    | true =>
      exfalso
      simp only [isE, Bool.or_eq_true, beq_iff_eq] at h
      have := hno c (by rcases h with rfl | rfl <;> decide) (by rcases h with rfl | rfl <;> decide) (by rcases h with rfl | rfl <;> decide) (by rcases h with rfl | rfl <;> decide)
      exact this (List.mem_append_right _ hc)
  rw [tokenL_plain _ hl hr, hw, if_neg (by decide), realR_eq]
  unfold realL2
  rw [hsg]
  simp only
  rw [hE]
  simp only [Bool.false_eq_true, if_false]
  rw [finL_eq _ _ 0 (mant_dot W R hW hR h0)]
  rw [parseL_eq, hsg] at hp
  simp only at hp
  rw [mant_dot W R hW hR h0, if_pos rfl] at hp
  rw [cutDot_yes R W (notdot W hW)] at hp ⊢
  simp only [Int.add_zero]
  rw [wholeD_at_point, restD_at_point]
  try simp only at hp
  unfold signL2 at hp
  generalize rawL W R = o at *
  cases o with
  | none => simp at hp
  | some x =>
    show (if fitsB (if neg m then -x else x) then tokReal (if neg m then -x else x) else tokGreat) = tokReal N
    change (if fitsB (if neg m then -x else x) then ((if neg m then -x else x), true) else (0, false)) = (N, true) at hp
    generalize (if neg m then -x else x) = y at *
    cases hf : fitsB y with
    | true => rw [hf] at hp; simp only [if_true, Prod.mk.injEq, and_true] at hp; rw [hp]; rfl
    | false => rw [hf] at hp; simp at hp

end Go.Proofs.YteaohajihhpnmaaDoor
