/-
  Tokens: dec.Token.
-/
import Derived.Test.YtjghbcjnplcleaaGreatDoorTokC
namespace Go.Proofs.YtjghbcjnplcleaaGreatDoor
open Go.RowKit

/-- a real number's token: sign, mantissa, power -/
def finL (m : Bool) (p : List UInt8) (k : Int) : TokR :=
  if mantOk p then
    (if (valueL m (wholeD ((cutDot p).1 ++ (cutDot p).2.1) ((cutDot p).1.length + k)) (restD ((cutDot p).1 ++ (cutDot p).2.1) ((cutDot p).1.length + k))).2 then
      tokReal (valueL m (wholeD ((cutDot p).1 ++ (cutDot p).2.1) ((cutDot p).1.length + k)) (restD ((cutDot p).1 ++ (cutDot p).2.1) ((cutDot p).1.length + k))).1
    else tokGreat)
  else tokNone
def realL2 (l : List UInt8) : TokR :=
  if (cutE (signedL l).2).2.2 then
    (if (powerL (cutE (signedL l).2).2.1).2 then finL (signedL l).1 (cutE (signedL l).2).1 (powerL (cutE (signedL l).2).2.1).1 else tokNone)
  else finL (signedL l).1 (signedL l).2 0
/-- the token that a text is -/
def tokenL (l : List UInt8) : TokR :=
  if 64 < l.length then tokNone
  else if (radixL l).ok then radixL l
  else if (wholeT l).2 then tokInt (wholeT l).1
  else realL2 l

theorem blay {w0 w1 w2 : World} (hb1 : Below w0.heap.size w0 w1) {o : Obj}
    (hb2 : Below (w1.alloc o).heap.size (w1.alloc o) w2) : Below w0.heap.size w0 w2 := by
  have h : Below w0.heap.size w0 (w1.alloc o) := hb1.alloc hb1.size o
  exact h.trans (hb2.mono h.size)

theorem dec_Token_long (l : List UInt8) (w : World) (hl : 64 < l.length) :
    Calls Tryz.prog 115 #[.string (bs l)] w fun e w' => e = .returned tokNone.val ∧ Below w.heap.size w w' := by
  have hs := bs_size l
  go_enter Tryz.func115, Tryz.ntmps115
  go_wp2_with fail
  exact bodyPost_ret (v := tokNone.val) (by simp [results, Tryz.results115, go_sem, TokR.val, tokNone]) rfl ⟨rfl, balloc (Below.refl _ _)⟩

set_option maxRecDepth 100000 in
set_option maxHeartbeats 4000000 in
theorem dec_Token_radix (l : List UInt8) (w : World) (hl : l.length ≤ 64) (h : (radixL l).ok = true) :
    Calls Tryz.prog 115 #[.string (bs l)] w fun e w' => e = .returned (radixL l).val ∧ Below w.heap.size w w' := by
  have hs := bs_size l
  have hR := fun w => dec_radix l w (by omega)
  generalize radixL l = R at *
  obtain ⟨k, n, ok, er⟩ := R
  simp only at h
  subst h
  simp only [TokR.val] at hR ⊢
  go_enter Tryz.func115, Tryz.ntmps115
  go_wp2_with (go_at_call 161; go_must (refine (hR _).mono ?_); rintro e w1 ⟨rfl, hb1⟩; obtain ⟨c0, c1, c2, f0, f1, f2⟩ := tokCells hb1; have hz1 := hb1.size; simp at hz1; replace hz1 := Nat.lt_of_succ_le hz1)
  refine bodyPost_ret (v := .tuple #[.agg #[.int .i64 k, .int .i64 n, .string ⟨#[]⟩], .bool true, .int .i64 er]) (by simp [results, Tryz.results115, go_sem, c0, c1, c2, hz1]) rfl ⟨rfl, (bset3 (balloc hb1) _ _ _).alloc (by simp; omega) _⟩

set_option maxRecDepth 100000 in
set_option maxHeartbeats 4000000 in
theorem dec_Token_whole (l : List UInt8) (w : World) (hl : l.length ≤ 64) (h : (radixL l).ok = false) (h2 : (wholeT l).2 = true) :
    Calls Tryz.prog 115 #[.string (bs l)] w fun e w' => e = .returned (tokInt (wholeT l).1).val ∧ Below w.heap.size w w' := by
  have hs := bs_size l
  have hR := fun w => dec_radix l w (by omega)
  have hW := fun w => dec_whole l w (by omega)
  generalize radixL l = R at *
  generalize wholeT l = V at *
  obtain ⟨k, n, ok, er⟩ := R
  obtain ⟨v, vok⟩ := V
  simp only at h h2
  subst h h2
  simp only [TokR.val, tokInt] at hR hW ⊢
  go_enter Tryz.func115, Tryz.ntmps115
  go_wp2_with first | (go_at_call 161; go_must (refine (hR _).mono ?_); rintro e w1 ⟨rfl, hb1⟩; obtain ⟨c0, c1, c2, f0, f1, f2⟩ := tokCells hb1; have hz1 := hb1.size; simp at hz1; replace hz1 := Nat.lt_of_succ_le hz1) | (go_at_call 162; go_must (refine (hW _).mono ?_); rintro e w2 ⟨rfl, hb2⟩; replace hb2 := blay hb1 hb2; clear c0 c1 c2 f0 f1 f2; obtain ⟨c0, c1, c2, f0, f1, f2⟩ := tokCells hb2)
  refine bodyPost_ret (v := .tuple #[.agg #[.int .i64 1, .int .i64 v, .string ⟨#[]⟩], .bool true, .int .i64 0]) (by simp [results, Tryz.results115, go_sem, c0, c1, c2]) rfl ⟨rfl, bset3 (balloc hb2) _ _ _⟩

theorem powerL_bound (l : List UInt8) : -1000 ≤ (powerL l).1 ∧ (powerL l).1 ≤ 1000 := by
  unfold powerL
  split
  · simp
  · next h =>
    simp only [Bool.or_eq_true, decide_eq_true_eq, Bool.not_eq_true', not_or, Bool.not_eq_false] at h
    obtain ⟨⟨h1, h2⟩, h3⟩ := h
    have h4 := natOf_lt (signedL l).2 (List.all_eq_true.1 h3)
    have h5 : 10 ^ (signedL l).2.length ≤ 10 ^ 3 := Nat.pow_le_pow_right (by decide) (by omega)
    generalize natOf (signedL l).2 = N at *
    split
    · simp only; omega
    · simp only; omega

set_option maxRecDepth 100000 in
set_option maxHeartbeats 8000000 in
theorem dec_Token_plain (l : List UInt8) (w : World) (hl : l.length ≤ 64) (h : (radixL l).ok = false) (h2 : (wholeT l).2 = false) (h3 : (cutE (signedL l).2).2.2 = false) :
    Calls Tryz.prog 115 #[.string (bs l)] w fun e w' => e = .returned (finL (signedL l).1 (signedL l).2 0).val ∧ Below w.heap.size w w' := by
  have hs := bs_size l
  have hR := fun w => dec_radix l w (by omega)
  have hW := fun w => dec_whole l w (by omega)
  have hS := fun w => dec_signed l w (by omega)
  have hlen := signedL_len l
  generalize radixL l = R at *
  generalize wholeT l = V at *
  generalize signedL l = sr at *
  obtain ⟨k, n, ok, er⟩ := R
  obtain ⟨v, vok⟩ := V
  obtain ⟨m, r⟩ := sr
  simp only at h h2 h3 hlen hS ⊢
  subst h h2
  simp only [TokR.val] at hR hW
  have hI : ∀ w, Calls Tryz.prog 163 #[.string (bs r), .string ⟨#[101, 69]⟩] w fun e w' => e = .returned (.int .i64 (-1)) ∧ Below w.heap.size w w' := fun w => by
    have h := lib_IndexAny r w (by omega)
    unfold idxE at h
    rw [h3] at h
    exact h
  have hM := fun w => dec_mantissa r w (by omega)
  have hcl := cutDot_len r
  have hok := mantOk_digits r
  unfold finL
  generalize mantOk r = ok at *
  generalize cutDot r = pq at *
  obtain ⟨A, B, f⟩ := pq
  simp only at hM hok hcl
  clear h3
  cases ok with
  | false =>
    clear hok
    go_enter Tryz.func115, Tryz.ntmps115
    go_wp2_with first | (go_at_call 161; go_must (refine (hR _).mono ?_); rintro e w1 ⟨rfl, hb1⟩; obtain ⟨c0, c1, c2, f0, f1, f2⟩ := tokCells hb1; have hz1 := hb1.size; simp at hz1; replace hz1 := Nat.lt_of_succ_le hz1) | (go_at_call 162; go_must (refine (hW _).mono ?_); rintro e w2 ⟨rfl, hb2⟩; replace hb2 := blay hb1 hb2; clear c0 c1 c2 f0 f1 f2; obtain ⟨c0, c1, c2, f0, f1, f2⟩ := tokCells hb2) | (go_at_call 158; go_must (refine (hS _).mono ?_); rintro e w3 ⟨rfl, hb3⟩; replace hb3 := btr hb2 hb3; clear c0 c1 c2 f0 f1 f2; obtain ⟨c0, c1, c2, f0, f1, f2⟩ := tokCells hb3) | (go_at_call 163; go_must (refine (hI _).mono ?_); rintro e w4 ⟨rfl, hb4⟩; replace hb4 := btr hb3 hb4; clear c0 c1 c2 f0 f1 f2; obtain ⟨c0, c1, c2, f0, f1, f2⟩ := tokCells hb4) | (go_at_call 159; go_must (refine (hM _).mono ?_); rintro e w5 ⟨rfl, hb5⟩; replace hb5 := btr hb4 hb5; clear c0 c1 c2 f0 f1 f2; obtain ⟨c0, c1, c2, f0, f1, f2⟩ := tokCells hb5)
    exact bodyPost_ret (v := tokNone.val) (by simp [results, Tryz.results115, go_sem, c0, c1, c2, TokR.val, tokNone]) rfl ⟨rfl, bset3 (balloc hb5) _ _ _⟩
  | true =>
    obtain ⟨hA, hB⟩ := hok rfl
    rw [if_pos rfl]
    have hAB : ∀ c ∈ A ++ B, isDig c = true := by
      intro c hc
      rcases List.mem_append.1 hc with h | h
      · exact hA c h
      · exact hB c h
    have hSh := fun w => dec_shift A B 0 w (by omega) (by omega) (by omega)
    have hV := fun w => dec_value m (wholeD (A ++ B) (A.length + 0)) (restD (A ++ B) (A.length + 0)) w (by simp [restD]; omega) (wholeD_digits _ _ hAB) (restD_digits _ _ hAB)
    clear hok hA hB hAB
    simp only
    generalize wholeD (A ++ B) (A.length + 0) = W at *
    generalize restD (A ++ B) (A.length + 0) = D at *
    generalize valueL m W D = vv at *
    obtain ⟨n2, fit⟩ := vv
    simp only at hV
    cases fit
    all_goals
      go_enter Tryz.func115, Tryz.ntmps115
      go_wp2_with first | (go_at_call 161; go_must (refine (hR _).mono ?_); rintro e w1 ⟨rfl, hb1⟩; obtain ⟨c0, c1, c2, f0, f1, f2⟩ := tokCells hb1; have hz1 := hb1.size; simp at hz1; replace hz1 := Nat.lt_of_succ_le hz1) | (go_at_call 162; go_must (refine (hW _).mono ?_); rintro e w2 ⟨rfl, hb2⟩; replace hb2 := blay hb1 hb2; clear c0 c1 c2 f0 f1 f2; obtain ⟨c0, c1, c2, f0, f1, f2⟩ := tokCells hb2) | (go_at_call 158; go_must (refine (hS _).mono ?_); rintro e w3 ⟨rfl, hb3⟩; replace hb3 := btr hb2 hb3; clear c0 c1 c2 f0 f1 f2; obtain ⟨c0, c1, c2, f0, f1, f2⟩ := tokCells hb3) | (go_at_call 163; go_must (refine (hI _).mono ?_); rintro e w4 ⟨rfl, hb4⟩; replace hb4 := btr hb3 hb4; clear c0 c1 c2 f0 f1 f2; obtain ⟨c0, c1, c2, f0, f1, f2⟩ := tokCells hb4) | (go_at_call 159; go_must (refine (hM _).mono ?_); rintro e w5 ⟨rfl, hb5⟩; replace hb5 := btr hb4 hb5; clear c0 c1 c2 f0 f1 f2; obtain ⟨c0, c1, c2, f0, f1, f2⟩ := tokCells hb5) | (go_at_call 165; go_must (refine (hSh _).mono ?_); rintro e w6 ⟨rfl, hb6⟩; replace hb6 := btr hb5 hb6; clear c0 c1 c2 f0 f1 f2; obtain ⟨c0, c1, c2, f0, f1, f2⟩ := tokCells hb6) | (go_at_call 160; go_must (refine (hV _).mono ?_); rintro e w7 ⟨rfl, hb7⟩; replace hb7 := btr hb6 hb7; clear c0 c1 c2 f0 f1 f2; obtain ⟨c0, c1, c2, f0, f1, f2⟩ := tokCells hb7)
    · exact bodyPost_ret (v := tokGreat.val) (by simp [results, Tryz.results115, go_sem, c0, c1, c2, TokR.val, tokGreat]) rfl ⟨rfl, bset3 (balloc hb7) _ _ _⟩
    · exact bodyPost_ret (v := (tokReal n2).val) (by simp [results, Tryz.results115, go_sem, c0, c1, c2, TokR.val, tokReal]) rfl ⟨rfl, bset3 (balloc hb7) _ _ _⟩

set_option maxRecDepth 100000 in
set_option maxHeartbeats 8000000 in
theorem dec_Token_power (l : List UInt8) (w : World) (hl : l.length ≤ 64) (h : (radixL l).ok = false) (h2 : (wholeT l).2 = false) (h3 : (cutE (signedL l).2).2.2 = true) :
    Calls Tryz.prog 115 #[.string (bs l)] w fun e w' => e = .returned (if (powerL (cutE (signedL l).2).2.1).2 then finL (signedL l).1 (cutE (signedL l).2).1 (powerL (cutE (signedL l).2).2.1).1 else tokNone).val ∧ Below w.heap.size w w' := by
  have hs := bs_size l
  have hR := fun w => dec_radix l w (by omega)
  have hW := fun w => dec_whole l w (by omega)
  have hS := fun w => dec_signed l w (by omega)
  have hlen := signedL_len l
  generalize radixL l = R at *
  generalize wholeT l = V at *
  generalize signedL l = sr at *
  obtain ⟨k, n, ok, er⟩ := R
  obtain ⟨v, vok⟩ := V
  obtain ⟨m, r⟩ := sr
  simp only at h h2 h3 hlen hS ⊢
  subst h h2
  simp only [TokR.val] at hR hW
  have hI := fun w => lib_IndexAny r w (by omega)
  obtain ⟨x, -, hrx⟩ := cutE_yes_join r h3
  have hel := cutE_len r
  unfold idxE at hI
  generalize cutE r = cc at *
  obtain ⟨p, q, fd⟩ := cc
  simp only at h3 hrx hI hel ⊢
  subst h3
  rw [if_pos rfl] at hI
  change ∀ w, Calls Tryz.prog 163 #[.string (bs r), .string ⟨#[101, 69]⟩] w _ at hI
  have hrs : (bs r).size = p.length + (q.length + 1) := by rw [bs_size, hrx]; simp
  have hx1 : (bs r).extract (p.length + 1) (p.length + (q.length + 1)) = bs q := by
    rw [← hrs, ext_drop _ _ _ (bs_size r), hrx, List.append_cons, List.drop_left' (by simp)]
  have hx2 : (bs r).extract 0 p.length = bs p := by
    rw [ext_take, hrx]; simp
  have hP := fun w => dec_power q w (by omega)
  obtain ⟨hpb1, hpb2⟩ := powerL_bound q
  have hrl : p.length + (q.length + 1) ≤ 64 := by have h := bs_size r; omega
  have hM := fun w => dec_mantissa p w (by omega)
  have hcl := cutDot_len p
  have hok := mantOk_digits p
  generalize powerL q = pw at *
  obtain ⟨by', pok⟩ := pw
  unfold finL
  simp only at hP hpb1 hpb2 ⊢
  clear hrx hlen hel
  cases pok with
  | false =>
    clear hok
    go_enter Tryz.func115, Tryz.ntmps115
    go_wp2_with first | (go_at_call 161; go_must (refine (hR _).mono ?_); rintro e w1 ⟨rfl, hb1⟩; obtain ⟨c0, c1, c2, f0, f1, f2⟩ := tokCells hb1; have hz1 := hb1.size; simp at hz1; replace hz1 := Nat.lt_of_succ_le hz1) | (go_at_call 162; go_must (refine (hW _).mono ?_); rintro e w2 ⟨rfl, hb2⟩; replace hb2 := blay hb1 hb2; clear c0 c1 c2 f0 f1 f2; obtain ⟨c0, c1, c2, f0, f1, f2⟩ := tokCells hb2) | (go_at_call 158; go_must (refine (hS _).mono ?_); rintro e w3 ⟨rfl, hb3⟩; replace hb3 := btr hb2 hb3; clear c0 c1 c2 f0 f1 f2; obtain ⟨c0, c1, c2, f0, f1, f2⟩ := tokCells hb3) | (go_at_call 163; go_must (refine (hI _).mono ?_); rintro e w4 ⟨rfl, hb4⟩; replace hb4 := btr hb3 hb4; clear c0 c1 c2 f0 f1 f2; obtain ⟨c0, c1, c2, f0, f1, f2⟩ := tokCells hb4) | (go_at_call 164; go_must (refine (hP _).mono ?_); rintro e w5 ⟨rfl, hb5⟩; replace hb5 := btr hb4 hb5; clear c0 c1 c2 f0 f1 f2; obtain ⟨c0, c1, c2, f0, f1, f2⟩ := tokCells hb5)
    exact bodyPost_ret (v := tokNone.val) (by simp [results, Tryz.results115, go_sem, c0, c1, c2, TokR.val, tokNone]) rfl ⟨rfl, bset3 (balloc hb5) _ _ _⟩
  | true =>
    rw [if_pos rfl]
    generalize mantOk p = ok at *
    generalize cutDot p = pq at *
    obtain ⟨A, B, f⟩ := pq
    simp only at hM hok hcl
    cases ok with
    | false =>
      clear hok
      go_enter Tryz.func115, Tryz.ntmps115
      go_wp2_with first | (go_at_call 161; go_must (refine (hR _).mono ?_); rintro e w1 ⟨rfl, hb1⟩; obtain ⟨c0, c1, c2, f0, f1, f2⟩ := tokCells hb1; have hz1 := hb1.size; simp at hz1; replace hz1 := Nat.lt_of_succ_le hz1) | (go_at_call 162; go_must (refine (hW _).mono ?_); rintro e w2 ⟨rfl, hb2⟩; replace hb2 := blay hb1 hb2; clear c0 c1 c2 f0 f1 f2; obtain ⟨c0, c1, c2, f0, f1, f2⟩ := tokCells hb2) | (go_at_call 158; go_must (refine (hS _).mono ?_); rintro e w3 ⟨rfl, hb3⟩; replace hb3 := btr hb2 hb3; clear c0 c1 c2 f0 f1 f2; obtain ⟨c0, c1, c2, f0, f1, f2⟩ := tokCells hb3) | (go_at_call 163; go_must (refine (hI _).mono ?_); rintro e w4 ⟨rfl, hb4⟩; replace hb4 := btr hb3 hb4; clear c0 c1 c2 f0 f1 f2; obtain ⟨c0, c1, c2, f0, f1, f2⟩ := tokCells hb4) | (go_at_call 164; go_must (refine (hP _).mono ?_); rintro e w5 ⟨rfl, hb5⟩; replace hb5 := btr hb4 hb5; clear c0 c1 c2 f0 f1 f2; obtain ⟨c0, c1, c2, f0, f1, f2⟩ := tokCells hb5) | (go_at_call 159; go_must (refine (hM _).mono ?_); rintro e w6 ⟨rfl, hb6⟩; replace hb6 := btr hb5 hb6; clear c0 c1 c2 f0 f1 f2; obtain ⟨c0, c1, c2, f0, f1, f2⟩ := tokCells hb6)
      exact bodyPost_ret (v := tokNone.val) (by simp [results, Tryz.results115, go_sem, c0, c1, c2, TokR.val, tokNone]) rfl ⟨rfl, bset3 (balloc hb6) _ _ _⟩
    | true =>
      obtain ⟨hA, hB⟩ := hok rfl
      rw [if_pos rfl]
      have hAB : ∀ c ∈ A ++ B, isDig c = true := by
        intro c hc
        rcases List.mem_append.1 hc with h | h
        · exact hA c h
        · exact hB c h
      have hSh := fun w => dec_shift A B by' w (by omega) (by omega) (by omega)
      have hV := fun w => dec_value m (wholeD (A ++ B) (A.length + by')) (restD (A ++ B) (A.length + by')) w (by simp [restD]; omega) (wholeD_digits _ _ hAB) (restD_digits _ _ hAB)
      clear hok hA hB hAB
      simp only
      generalize wholeD (A ++ B) (A.length + by') = W at *
      generalize restD (A ++ B) (A.length + by') = D at *
      generalize valueL m W D = vv at *
      obtain ⟨n2, fit⟩ := vv
      simp only at hV
      cases fit
      all_goals
        go_enter Tryz.func115, Tryz.ntmps115
        go_wp2_with first | (go_at_call 161; go_must (refine (hR _).mono ?_); rintro e w1 ⟨rfl, hb1⟩; obtain ⟨c0, c1, c2, f0, f1, f2⟩ := tokCells hb1; have hz1 := hb1.size; simp at hz1; replace hz1 := Nat.lt_of_succ_le hz1) | (go_at_call 162; go_must (refine (hW _).mono ?_); rintro e w2 ⟨rfl, hb2⟩; replace hb2 := blay hb1 hb2; clear c0 c1 c2 f0 f1 f2; obtain ⟨c0, c1, c2, f0, f1, f2⟩ := tokCells hb2) | (go_at_call 158; go_must (refine (hS _).mono ?_); rintro e w3 ⟨rfl, hb3⟩; replace hb3 := btr hb2 hb3; clear c0 c1 c2 f0 f1 f2; obtain ⟨c0, c1, c2, f0, f1, f2⟩ := tokCells hb3) | (go_at_call 163; go_must (refine (hI _).mono ?_); rintro e w4 ⟨rfl, hb4⟩; replace hb4 := btr hb3 hb4; clear c0 c1 c2 f0 f1 f2; obtain ⟨c0, c1, c2, f0, f1, f2⟩ := tokCells hb4) | (go_at_call 164; go_must (refine (hP _).mono ?_); rintro e w5 ⟨rfl, hb5⟩; replace hb5 := btr hb4 hb5; clear c0 c1 c2 f0 f1 f2; obtain ⟨c0, c1, c2, f0, f1, f2⟩ := tokCells hb5) | (go_at_call 159; go_must (refine (hM _).mono ?_); rintro e w6 ⟨rfl, hb6⟩; replace hb6 := btr hb5 hb6; clear c0 c1 c2 f0 f1 f2; obtain ⟨c0, c1, c2, f0, f1, f2⟩ := tokCells hb6) | (go_at_call 165; go_must (refine (hSh _).mono ?_); rintro e w7 ⟨rfl, hb7⟩; replace hb7 := btr hb6 hb7; clear c0 c1 c2 f0 f1 f2; obtain ⟨c0, c1, c2, f0, f1, f2⟩ := tokCells hb7) | (go_at_call 160; go_must (refine (hV _).mono ?_); rintro e w8 ⟨rfl, hb8⟩; replace hb8 := btr hb7 hb8; clear c0 c1 c2 f0 f1 f2; obtain ⟨c0, c1, c2, f0, f1, f2⟩ := tokCells hb8)
      · exact bodyPost_ret (v := tokGreat.val) (by simp [results, Tryz.results115, go_sem, c0, c1, c2, TokR.val, tokGreat]) rfl ⟨rfl, bset3 (balloc hb8) _ _ _⟩
      · exact bodyPost_ret (v := (tokReal n2).val) (by simp [results, Tryz.results115, go_sem, c0, c1, c2, TokR.val, tokReal]) rfl ⟨rfl, bset3 (balloc hb8) _ _ _⟩

theorem dec_Token (l : List UInt8) (w : World) :
    Calls Tryz.prog 115 #[.string (bs l)] w fun e w' => e = .returned (tokenL l).val ∧ Below w.heap.size w w' := by
  unfold tokenL
  by_cases hl : 64 < l.length
  · rw [if_pos hl]; exact dec_Token_long l w hl
  · rw [if_neg hl]
    have hl' : l.length ≤ 64 := by omega
    cases h : (radixL l).ok with
    | true => rw [if_pos rfl]; exact dec_Token_radix l w hl' h
    | false =>
      rw [if_neg (by decide)]
      cases h2 : (wholeT l).2 with
      | true => rw [if_pos rfl]; exact dec_Token_whole l w hl' h h2
      | false =>
        rw [if_neg (by decide)]
        unfold realL2
        cases h3 : (cutE (signedL l).2).2.2 with
        | true => rw [if_pos rfl]; exact dec_Token_power l w hl' h h2 h3
        | false => rw [if_neg (by decide)]; exact dec_Token_plain l w hl' h h2 h3

end Go.Proofs.YtjghbcjnplcleaaGreatDoor
