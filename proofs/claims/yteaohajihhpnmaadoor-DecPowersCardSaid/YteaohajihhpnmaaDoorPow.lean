/-
  The law DecPowers, walked.
-/
import Derived.Test.YteaohajihhpnmaaDoorBackP
import Derived.Test.YteaohajihhpnmaaDoorAns
import Derived.Test.YteaohajihhpnmaaDoorFwHb
import Derived.Test.YteaohajihhpnmaaDoorFwB
namespace Go.Proofs.YteaohajihhpnmaaDoor
open Go.RowKit

/-- a token with a power -/
theorem tokenL_pow (m : Option Bool) (M X : List UInt8) (hM : ∀ c ∈ M, isDig c = true ∨ c = 46) (hM0 : ∀ c r, M = c :: r → isDig c = true) (h0 : M ≠ []) (hX : 35 ∉ X) (hl : (sgn m ++ (M ++ 101 :: X)).length ≤ 64) :
    tokenL (sgn m ++ (M ++ 101 :: X)) = if (powerL X).2 then finL (neg m) M (powerL X).1 else tokNone := by
  have hhead : ∀ c r, M ++ 101 :: X = c :: r → isDig c = true := by
    intro c r e
    cases M with
    | nil => exact absurd rfl h0
    | cons d M => simp only [List.cons_append, List.cons.injEq] at e; rw [← e.1]; exact hM0 d M rfl
  have hsg := signedL_sgn m (M ++ 101 :: X) hhead
  have hE : cutE (M ++ 101 :: X) = (M, X, true) := cutE_yes X 101 rfl M fun c hc => by
    rcases hM c hc with h | h
    · exact dig_notE c h
    · rw [h]; rfl
  have h35 : (35 : UInt8) ∉ sgn m ++ (M ++ 101 :: X) := by
    intro h
    rcases List.mem_append.1 h with h | h
    · match m with
      | none => cases h
      | some true => simp [sgn] at h
      | some false => simp [sgn] at h
    · rcases List.mem_append.1 h with h | h
      · rcases hM 35 h with h | h <;> exact absurd h (by decide)
      · rcases List.mem_cons.1 h with h | h
        · exact absurd h (by decide)
        · exact hX h
  have hr : radixOk (sgn m ++ (M ++ 101 :: X)) = false := by unfold radixOk; rw [cutC_no 35 _ h35]; rfl
  have hw : (wholeT (sgn m ++ (M ++ 101 :: X))).2 = false := by
    unfold wholeT
    rw [hsg]
    have : (M ++ 101 :: X).all isDig = false := by
      cases h : (M ++ 101 :: X).all isDig with
      | false => rfl
      | true => exact absurd (List.all_eq_true.1 h 101 (by simp)) (by decide)
    simp [this]
  rw [tokenL_plain _ hl hr, hw, if_neg (by decide), realR_eq]
  unfold realL2
  rw [hsg]
  simp only
  rw [hE]
  rfl

/-- a raw number and its sign, as a token -/
def tokRaw (m : Bool) (o : Option Int) : TokR :=
  match o with
  | none => tokGreat
  | some n => if fitsB (if m then -n else n) then tokReal (if m then -n else n) else tokGreat
theorem rawL_zero (W R : List UInt8) : rawL (48 :: W) R = rawL W R := by
  unfold rawL
  rw [List.dropWhile_cons_of_pos (by decide)]
theorem finL_digits (m : Bool) (D : List UInt8) (k : Nat) (hD : ∀ c ∈ D, isDig c = true) (h0 : D ≠ []) :
    finL m D (-(k : Int)) = tokRaw m (rawL (D.take (D.length - k)) (List.replicate (k - D.length) 48 ++ D.drop (D.length - k))) := by
  rw [finL_eq _ _ _ (mant_none D hD h0), cutDot_none D hD]
  simp only [List.append_nil]
  have e1 : wholeD D ((D.length : Int) + -(k : Int)) = D.take (D.length - k) := by
    unfold wholeD
    have a1 : ((D.length : Int) + -(k : Int)).toNat = D.length - k := by omega
    rw [a1]
    have a2 : D.length - k - D.length = 0 := by omega
    rw [a2, List.replicate_zero, List.append_nil]
  have e2 : restD D ((D.length : Int) + -(k : Int)) = List.replicate (k - D.length) 48 ++ D.drop (D.length - k) := by
    unfold restD
    have a1 : ((D.length : Int) + -(k : Int)).toNat = D.length - k := by omega
    have a2 : (-((D.length : Int) + -(k : Int))).toNat = k - D.length := by omega
    rw [a1, a2]
  rw [e1, e2]; rfl
theorem tokenL_dotRaw (m : Option Bool) (W R : List UInt8) (hW : ∀ c ∈ W, isDig c = true) (h0 : W ≠ []) (hR : ∀ c ∈ R, isDig c = true) (hl : (sgn m ++ (W ++ 46 :: R)).length ≤ 64) (v : Int) (hv : rawL W R = some v) (hf : fitsB (if neg m then -v else v) = true) :
    tokenL (sgn m ++ (W ++ 46 :: R)) = tokReal (if neg m then -v else v) := by
  refine tokenL_real m W R _ hW h0 hR hl ?_
  rw [parseL_eq, signedL_sgn m _ (head_dig W _ hW h0)]
  simp only
  rw [mant_dot W R hW hR h0, if_pos rfl, cutDot_yes R W (notdot W hW)]
  simp only
  rw [hv]
  unfold signL2
  simp only [hf, if_true]

theorem natOf_take_div (D : List UInt8) : ∀ k : Nat, natOf (D.take (D.length - k)) * 10 ^ min k D.length ≤ natOf D := by
  intro k
  rw [natOf_valD, natOf_valD]
  have h : digitsOf D = digitsOf (D.take (D.length - k)) ++ digitsOf (D.drop (D.length - k)) := by rw [← digitsOf_append, List.take_append_drop]
  have hl : (digitsOf (D.drop (D.length - k))).length = min k D.length := by rw [digitsOf_len, List.length_drop]; omega
  conv => rhs; rw [h, valD_append, hl]
  omega

/-- what a number below 32769 comes to, its point moved; it fits -/
theorem raw_moved (D : List UInt8) (k : Nat) (hD : ∀ c ∈ D, isDig c = true) (hk : k ≤ 4) (h0 : D ≠ []) (neg : Bool) (hn : natOf D ≤ 32768) (hn2 : neg = false → natOf D ≤ 32767) :
    ∃ v, rawL (D.take (D.length - k)) (List.replicate (k - D.length) 48 ++ D.drop (D.length - k)) = some v ∧ fitsB (if neg then -v else v) = true := by
  have hW : ∀ c ∈ D.take (D.length - k), isDig c = true := fun c hc => hD c (List.mem_of_mem_take hc)
  have hR : ∀ c ∈ List.replicate (k - D.length) 48 ++ D.drop (D.length - k), isDig c = true := fun c hc => (List.mem_append.1 hc).elim (dig_zeros _ c) fun h => hD c (List.mem_of_mem_drop h)
  have hle := natOf_take_div D k
  by_cases hk0 : k = 0
  · subst hk0
    have e1 : D.length - 0 = D.length := by omega
    rw [e1, List.take_length, List.drop_length, Nat.zero_sub, List.replicate_zero, List.nil_append]
    have h := rawL_exact D [] (natOf D) 0 hD rfl (by omega) (by simp) (by simp [digitsOf, valD])
    rw [h]
    refine ⟨_, rfl, ?_⟩
    cases neg with
    | true => exact fitsB_yes (by simp only [if_true]; omega) (by simp only [if_true]; omega)
    | false => have := hn2 rfl; exact fitsB_yes (by simp only [Bool.false_eq_true, if_false]; omega) (by simp only [Bool.false_eq_true, if_false]; omega)
  · have hlen : 0 < D.length := List.length_pos_iff.2 h0
    have h10 : 10 ^ 1 ≤ 10 ^ min k D.length := Nat.pow_le_pow_right (by decide) (by omega)
    have hN : natOf (D.take (D.length - k)) ≤ 3276 := by
      have := Nat.mul_le_mul_left (natOf (D.take (D.length - k))) h10
      omega
    have ht : ¬ 5 < ((D.take (D.length - k)).dropWhile (· == 48)).length := fun h => by have := (trim_long _ hW).1 h; omega
    obtain ⟨v, hv⟩ : ∃ v, rawL (D.take (D.length - k)) (List.replicate (k - D.length) 48 ++ D.drop (D.length - k)) = some v := by
      unfold rawL; rw [if_neg ht]; exact ⟨_, rfl⟩
    refine ⟨v, hv, ?_⟩
    have hb : 0 ≤ v ∧ v ≤ 3277 * 65536 := by
      unfold rawL at hv
      rw [if_neg ht, natOf_trim] at hv
      have h3 := rounds_bound 16 (natOf (D.take (D.length - k))) (digitsOf (List.replicate (k - D.length) 48 ++ D.drop (D.length - k))) (digitsOf_lt _ hR) (by omega)
      have h4 := dbl_carry _ (rounds_digits 16 (natOf (D.take (D.length - k)) : Int) _ (digitsOf_lt _ hR))
      generalize rounds 16 (natOf (D.take (D.length - k)) : Int) (digitsOf (List.replicate (k - D.length) 48 ++ D.drop (D.length - k))) = q at *
      have e : (2 : Int) ^ 16 = 65536 := by decide
      rw [e] at h3
      simp only [Option.some.injEq] at hv
      omega
    cases neg with
    | true => exact fitsB_yes (by simp only [if_true]; omega) (by simp only [if_true]; omega)
    | false => exact fitsB_yes (by simp only [Bool.false_eq_true, if_false]; omega) (by simp only [Bool.false_eq_true, if_false]; omega)

theorem decL_sgn (n : Int) : decL n = sgn (if n < 0 then some true else none) ++ digitsL n.natAbs := by unfold decL sgn; split <;> rfl

theorem take_zeros (K : Nat) (h : K ≤ 4) : ([48, 48, 48, 48] : List UInt8).take K = List.replicate K 48 := by
  match K, h with
  | 0, _ => rfl
  | 1, _ => rfl
  | 2, _ => rfl
  | 3, _ => rfl
  | 4, _ => rfl
theorem powerL_minus (K : Nat) (h : K ≤ 4) : powerL (45 :: digitsL K) = (-(K : Int), true) := by
  obtain ⟨d1, d2, d3⟩ := digitsL_val K
  have hl : (digitsL K).length ≤ 1 := digitsL_len 0 K (by omega)
  have hs : signedL (45 :: digitsL K) = (true, digitsL K) := rfl
  unfold powerL
  rw [hs]
  simp only
  rw [List.all_eq_true.2 d1, d2, if_neg]
  · rfl
  · simp only [Bool.not_true, Bool.or_false, Bool.or_eq_true, decide_eq_true_eq, List.isEmpty_iff, not_or]
    exact ⟨d3, by omega⟩
theorem text1 (m : Option Bool) (D : List UInt8) (K : Nat) (hD : ∀ c ∈ D, isDig c = true) (h0 : D ≠ []) (hl : D.length ≤ 5) (hK : K ≤ 4) (v : Int) (hv : rawL (D.take (D.length - K)) (List.replicate (K - D.length) 48 ++ D.drop (D.length - K)) = some v) (hf : fitsB (if neg m then -v else v) = true) :
    tokenL (sgn m ++ D ++ [101, 45] ++ digitsL K) = tokReal (if neg m then -v else v) := by
  obtain ⟨d1, d2, d3⟩ := digitsL_val K
  have hl2 : (digitsL K).length ≤ 1 := digitsL_len 0 K (by omega)
  have hsm : (sgn m).length ≤ 1 := by match m with | none => simp [sgn] | some true => simp [sgn] | some false => simp [sgn]
  have e : sgn m ++ D ++ [101, 45] ++ digitsL K = sgn m ++ (D ++ 101 :: (45 :: digitsL K)) := by simp
  rw [e, tokenL_pow m D _ (fun c hc => Or.inl (hD c hc)) (fun c r e => hD c (by rw [e]; simp)) h0 (fun h => by
    rcases List.mem_cons.1 h with h | h
    · exact absurd h (by decide)
    · exact absurd (d1 35 h) (by decide)) (by simp only [List.length_append, List.length_cons]; omega), powerL_minus K hK, if_pos rfl, finL_digits _ D K hD h0, hv]
  unfold tokRaw
  simp only [hf, if_true]
theorem text2 (m : Option Bool) (D : List UInt8) (K : Nat) (hD : ∀ c ∈ D, isDig c = true) (h0 : D ≠ []) (hl : D.length ≤ 5) (hK : K ≤ 4) (v : Int) (hv : rawL (D.take (D.length - K)) (List.replicate (K - D.length) 48 ++ D.drop (D.length - K)) = some v) (hf : fitsB (if neg m then -v else v) = true)
    (s : List UInt8) (at' : Nat) (hs : s = List.replicate (K + 1 - D.length) 48 ++ D) (ha : at' = K + 1 - D.length + D.length - K) :
    tokenL (sgn m ++ s.take at' ++ [46] ++ s.drop at') = tokReal (if neg m then -v else v) := by
  have hsm : (sgn m).length ≤ 1 := by match m with | none => simp [sgn] | some true => simp [sgn] | some false => simp [sgn]
  have hlen : 0 < D.length := List.length_pos_iff.2 h0
  have hsl : s.length ≤ 6 := by rw [hs]; simp only [List.length_append, List.length_replicate]; omega
  have hsd : ∀ c ∈ s, isDig c = true := fun c hc => by
    rw [hs] at hc
    exact (List.mem_append.1 hc).elim (dig_zeros _ c) (hD c)
  have e : sgn m ++ s.take at' ++ [46] ++ s.drop at' = sgn m ++ (s.take at' ++ 46 :: s.drop at') := by simp
  rw [e]
  refine tokenL_dotRaw m _ _ (fun c hc => hsd c (List.mem_of_mem_take hc)) ?_ (fun c hc => hsd c (List.mem_of_mem_drop hc)) (by simp only [List.length_append, List.length_cons, List.length_take, List.length_drop]; omega) v ?_ hf
  · intro h
    have := congrArg List.length h
    rw [List.length_take, hs] at this
    simp only [List.length_append, List.length_replicate, List.length_nil] at this
    omega
  · by_cases h : K < D.length
    · have e1 : K + 1 - D.length = 0 := by omega
      have e2 : K - D.length = 0 := by omega
      rw [e1, List.replicate_zero, List.nil_append] at hs
      rw [e2, List.replicate_zero, List.nil_append] at hv
      rw [hs, ha, show K + 1 - D.length + D.length - K = D.length - K by omega]; exact hv
    · have e1 : K + 1 - D.length = (K - D.length) + 1 := by omega
      have e2 : D.length - K = 0 := by omega
      rw [e2, List.take_zero, List.drop_zero] at hv
      rw [e1, List.replicate_succ, List.cons_append] at hs
      rw [hs, ha, show K + 1 - D.length + D.length - K = 1 by omega]
      show rawL [48] (List.replicate (K - D.length) 48 ++ D) = some v
      rw [rawL_zero]; exact hv
theorem text3 (n : Int) (m : Option Bool) (hm : m = if n < 0 then some true else none) (K : Nat) (hn : -32768 ≤ n ∧ n ≤ 32767) (hK : K ≤ 4) :
    tokenL (sgn m ++ digitsL n.natAbs ++ [46] ++ List.replicate K 48 ++ [101, 43, 48]) = tokReal (n * 65536) := by
  obtain ⟨d1, d2, d3⟩ := digitsL_val n.natAbs
  have hl : (digitsL n.natAbs).length ≤ 5 := digitsL_len 4 _ (by omega)
  have hsm : (sgn m).length ≤ 1 := by match m with | none => simp [sgn] | some true => simp [sgn] | some false => simp [sgn]
  have hz : ∀ c ∈ List.replicate K (48 : UInt8), isDig c = true := dig_zeros K
  have e : sgn m ++ digitsL n.natAbs ++ [46] ++ List.replicate K 48 ++ [101, 43, 48] = sgn m ++ ((digitsL n.natAbs ++ 46 :: List.replicate K 48) ++ 101 :: [43, 48]) := by simp
  have hpw : powerL [43, 48] = (0, true) := by decide
  rw [e, tokenL_pow m _ _ (fun c hc => by
      rcases List.mem_append.1 hc with h | h
      · exact Or.inl (d1 c h)
      · rcases List.mem_cons.1 h with h | h
        · exact Or.inr h
        · exact Or.inl (hz c h)) (head_dig _ _ d1 d3) (by simp [d3]) (by decide) (by simp only [List.length_append, List.length_cons, List.length_nil, List.length_replicate]; omega), hpw, if_pos rfl,
    finL_eq _ _ _ (mant_dot _ _ d1 hz d3), cutDot_yes _ _ (notdot _ d1)]
  simp only [Int.add_zero]
  have hv := rawL_exact (digitsL n.natAbs) (List.replicate K 48) n.natAbs 0 d1 d2 (by omega) hz (by rw [digitsOf_zeros, valD_zeros]; simp)
  rw [wholeD_at_point, restD_at_point, hv]
  have hx : (if neg m then -((n.natAbs * 65536 + 0 : Nat) : Int) else ((n.natAbs * 65536 + 0 : Nat) : Int)) = n * 65536 := by
    rw [hm]
    by_cases h : n < 0
    · rw [if_pos h]; simp only [neg, if_true]; omega
    · rw [if_neg h]; simp only [neg, Bool.false_eq_true, if_false]; omega
  show (if fitsB (if neg m then -((n.natAbs * 65536 + 0 : Nat) : Int) else ((n.natAbs * 65536 + 0 : Nat) : Int)) then tokReal (if neg m then -((n.natAbs * 65536 + 0 : Nat) : Int) else ((n.natAbs * 65536 + 0 : Nat) : Int)) else tokGreat) = tokReal (n * 65536)
  rw [hx, fitsB_yes (by omega) (by omega)]; rfl

theorem token_real' (l : List UInt8) (n : Int) (w : World) (ht : tokenL l = tokReal n) :
    Calls Tryd.prog 17 #[.string (bs l)] w fun e w' => e = .returned (.tuple #[.agg #[.int .i64 2, .int .i64 n, .string ⟨#[]⟩], .bool true, .int .i64 0]) ∧ Below w.heap.size w w' := by
  have := dec_Token l w
  rw [ht] at this; exact this

set_option maxRecDepth 10000 in
theorem law_DecPowers (n a : Int) (w : World) (hn : (Lit.int .i16 n).wf = true) (ha : (Lit.int .u8 a).wf = true) :
    Calls Tryd.prog 6 #[.int .i16 n, .int .u8 a] w fun e w' => e = .returned (.bool true) ∧ Below w.heap.size w w' := by
  have hn2 : -32768 ≤ n ∧ n ≤ 32767 := by simpa [Lit.wf, IntKind.min, IntKind.max, IntKind.bits, IntKind.signed] using hn
  have ha2 : 0 ≤ a ∧ a ≤ 255 := by simpa [Lit.wf, IntKind.min, IntKind.max, IntKind.bits, IntKind.signed] using ha
  clear hn ha
  obtain ⟨K, hK⟩ : ∃ K : Nat, (K : Int) = a % 5 := ⟨(a % 5).toNat, by omega⟩
  have hK4 : K ≤ 4 := by omega
  obtain ⟨m, hm⟩ : ∃ m, m = (if n < 0 then some true else none : Option Bool) := ⟨_, rfl⟩
  have hmn : neg m = decide (n < 0) := by rw [hm]; by_cases h : n < 0 <;> simp [neg, h]
  have hms : (sgn m).length ≤ 1 := by rw [hm]; split <;> simp [sgn]
  have hDec : ∀ w, Calls Tryd.prog 19 #[.int .i64 n] w fun e w' => e = .returned (.string (bs (sgn m ++ digitsL n.natAbs))) ∧ Below w.heap.size w w' := fun w => by
    have := ref_Dec n w (by omega) (by omega)
    rw [decL_sgn, ← hm] at this; exact this
  have hDecK : ∀ w, Calls Tryd.prog 19 #[.int .i64 (K : Int)] w fun e w' => e = .returned (.string (bs (digitsL K))) ∧ Below w.heap.size w w' := fun w => by
    have := ref_Dec (K : Int) w (by omega) (by omega)
    unfold decL at this
    rw [if_neg (by omega), Int.natAbs_natCast] at this; exact this
  have h3 := text3 n m hm K hn2 hK4
  obtain ⟨d1, d2, d3⟩ := digitsL_val n.natAbs
  have hDl : (digitsL n.natAbs).length ≤ 5 := digitsL_len 4 _ (by omega)
  have hKl : (digitsL K).length ≤ 1 := digitsL_len 0 K (by omega)
  have hlen : 0 < (digitsL n.natAbs).length := List.length_pos_iff.2 d3
  generalize digitsL n.natAbs = D at *
  obtain ⟨v, hv, hf⟩ := raw_moved D K d1 hK4 d3 (neg m) (by omega) (fun h => by rw [hmn] at h; have := of_decide_eq_false h; omega)
  have h1 := text1 m D K d1 d3 hDl hK4 v hv hf
  have h2 := text2 m D K d1 d3 hDl hK4 v hv hf
  generalize (if neg m then -v else v) = V at *
  refine W.enter Tryd.func6 rfl Tryd.ntmps6 (Nat.le_of_ble_eq_true rfl) ?_
  have hB0 := Below.refl w.heap.size w
  refine W.seq ?_
  refine W.reg ?_ -- 0
  refine WL.p (.as rfl) rfl <| WL.nil <| ?_
  refine W.seq ?_
  refine W.reg ?_ -- 1
  refine WL.p (.mv rfl) rfl <| WL.p (.rem rfl rfl (by omega) (Int.tmod_eq_emod_of_nonneg (by omega))) rfl <| WL.p (.iis ((K : Int)) (.cvt Tryd.underlying5 Tryd.underlying3 rfl (i64w (by omega))) (by omega)) rfl <| WL.p (.as rfl) rfl <| WL.nil <| ?_
  refine W.seq ?_
  refine W.reg ?_ -- 2
  refine WL.p (.mv rfl) rfl <| WL.p (.cvt Tryd.underlying35 Tryd.underlying3 rfl (i64w (by omega))) rfl <| WL.c1 hb19 rfl rfl ((hDec _)) (fun w1 hw1 => ?_)
  have hB2 := btr hB0 hw1
  refine WL.p (.as rfl) rfl <| WL.nil <| ?_
  refine W.seq ?_
  refine W.reg ?_ -- 3
  refine WL.p (.mv rfl) rfl <| WL.p (.sis (List.replicate K 48) (.slT Tryd.underlying9 rfl rfl (K) (rfl) (by simp only [List.length_cons, List.length_nil]; omega)) (by exact take_zeros K hK4)) rfl <| WL.p (.as rfl) rfl <| WL.nil <| ?_
  refine W.seq ?_
  refine W.reg ?_ -- 4
  refine WL.p (.as rfl) rfl <| WL.nil <| ?_
  refine W.cut (α := Unit) (fun t => [(0, .int .i16 n), (5, .int .i64 (K : Int)), (6, .string (bs D)), (7, .string (bs (List.replicate K 48))), (8, .string (bs (sgn m)))]) (fun t w' => Below w.heap.size w w') ?_ (fun t w1 hR => ?_)
  · skip
    refine W.seq ?_
    refine W.reg ?_ -- 5
    refine WL.p (.mv rfl) rfl <| WL.p (.lss rfl rfl) rfl <| WL.nil <| ?_
    refine W.cond rfl (fun h3 => ?_) (fun h3 => ?_) -- slot 28
    · have h3' := of_decide_eq_true h3
      have hmt : m = some true := by rw [hm, if_pos ‹_›]
      refine W.regQ mixed (by kernel_rfl) ?_ -- 6
      refine WQ.p (.mv rfl) rfl <| WQ.p (.slF Tryd.underlying9 rfl rfl (1) (rfl) (by simp only [List.length_append]; omega)) rfl <| WQ.p (.as rfl) rfl <| WQ.p (.as rfl) rfl <| WQ.nil (fun w4 dw4 => ?_)
      have hB5 := Drew.below hB2 dw4
      first
      | exact ⟨(), ⟨rfl, rfl, lk_s rfl (by rw [hmt]; rfl), rfl, lk_s (s := [45]) rfl (by rw [hmt]; rfl), trivial⟩, hB5⟩
      | exact ⟨(), ⟨rfl, rfl, lk_s rfl (by rw [hmf]; rfl), rfl, lk_s (s := []) rfl (by rw [hmf]; rfl), trivial⟩, hB5⟩
    · have h3' := of_decide_eq_false h3
      have hmf : m = none := by rw [hm, if_neg ‹_›]
      refine W.skip ?_
      first
      | exact ⟨(), ⟨rfl, rfl, lk_s rfl (by rw [hmt]; rfl), rfl, lk_s (s := [45]) rfl (by rw [hmt]; rfl), trivial⟩, hB2⟩
      | exact ⟨(), ⟨rfl, rfl, lk_s rfl (by rw [hmf]; rfl), rfl, lk_s (s := []) rfl (by rw [hmf]; rfl), trivial⟩, hB2⟩
  have hW := hR
  refine W.seq ?_
  refine W.block ?_
  -- loop 1: writes [6, 31, 32, 33, 34, 35, 36]; reads from outside [5, 6]
  refine W.loop (α := Nat) (fun t => [(0, .int .i16 n), (5, .int .i64 (K : Int)), (6, .string (bs (List.replicate t 48 ++ D))), (7, .string (bs (List.replicate K 48))), (8, .string (bs (sgn m)))]) (fun t w' => w1 = w' ∧ t ≤ K + 1 - D.length) (fun t => K + 1 - D.length - t) (0) ⟨rfl, rfl, lk_s rfl rfl, rfl, rfl, trivial⟩ (⟨rfl, Nat.zero_le _⟩) (fun t w1 hR => ?_)
  obtain ⟨rfl, ht⟩ := hR
  have hsl : (List.replicate t (48 : UInt8) ++ D).length = t + D.length := by simp
  refine W.seq ?_
  refine W.seq ?_
  refine W.reg ?_ -- 7
  refine WL.p (.mv rfl) rfl <| WL.p (.len Tryd.underlying9 rfl) rfl <| WL.p (.mv rfl) rfl <| WL.p (.leq rfl rfl) rfl <| WL.nil <| ?_
  refine W.cond rfl (fun h6 => ?_) (fun h6 => ?_) -- slot 34
  · have h6' := of_decide_eq_true h6
    refine W.skip ?_
    refine W.block ?_
    refine W.reg ?_ -- 8
    refine WL.p (.mv rfl) rfl <| WL.p (.cat rfl rfl (by simp only [List.length_cons, List.length_nil]; omega)) rfl <| WL.p (.as rfl) rfl <| WL.nil <| ?_
    exact ⟨t + 1, ⟨rfl, rfl, lk_s rfl (by rw [List.replicate_succ]; rfl), rfl, rfl, trivial⟩, ⟨rfl, by omega⟩, by omega⟩
  · have h6' := of_decide_eq_false h6
    obtain ⟨T, rfl⟩ : ∃ T, T = t := ⟨t, rfl⟩
    have hT : T = K + 1 - D.length := by omega
    refine W.exit ?_ -- 0
    refine W.seq ?_
    refine W.reg ?_ -- 9
    refine WL.p (.mv rfl) rfl <| WL.p (.len Tryd.underlying9 rfl) rfl <| WL.p (.mv rfl) rfl <| WL.p (.iis (((T + D.length - K : Nat) : Int)) (.sub rfl rfl (i64w (by omega))) (by omega)) rfl <| WL.p (.as rfl) rfl <| WL.nil <| ?_
    refine W.seq ?_
    refine W.reg ?_ -- 10
    refine WL.p (.mv rfl) rfl <| WL.p (.cvt Tryd.underlying35 Tryd.underlying3 rfl (i64w (by omega))) rfl <| WL.c1 hb19 rfl rfl ((hDec _)) (fun w7 hw7 => ?_)
    have hB8 := btr hW hw7
    refine WL.p (.cat rfl rfl (by simp only [List.length_append, List.length_cons, List.length_nil, List.length_replicate, List.length_take, List.length_drop] at hsl ⊢; omega)) rfl <| WL.p (.mv rfl) rfl <| WL.c1 hb19 rfl rfl ((hDecK _)) (fun w9 hw9 => ?_)
    have hB10 := btr hB8 hw9
    refine WL.p (.cat rfl rfl (by simp only [List.length_append, List.length_cons, List.length_nil, List.length_replicate, List.length_take, List.length_drop] at hsl ⊢; omega)) rfl <| WL.c1 hb17 rfl rfl ((token_real' _ V _ h1)) (fun w11 hw11 => ?_)
    have hB12 := btr hB10 hw11
    refine WL.p (.mv rfl) rfl <| WL.p (.ext rfl rfl) rfl <| WL.p (.ext rfl rfl) rfl <| WL.p (.ext rfl rfl) rfl <| WL.alloc Tryd.zeroValue27 rfl (fun b13 wb13 eb13 hkb13 hub13 hsb13 => ?_)
    have hB14 := Upd.below hB12 (by rw [eb13]; exact hB12.size) hub13
    have hgeb13 : w.heap.size ≤ b13 := by rw [eb13]; exact hB12.size
    refine WL.stL rfl rfl hkb13 isz27 rfl rfl (fun w15 hkw15 huw15 hsw15 => ?_)
    have hB16 := Upd.below hB14 (by omega) huw15
    refine WL.p (.as rfl) rfl <| WL.p (.as rfl) rfl <| WL.nil <| ?_
    refine W.cut (α := Nat) (fun t => [(0, .int .i16 n), (7, .string (bs (List.replicate K 48))), (10, .pointer (some ⟨b13, 0, none⟩)), (11, .bool true), (12, .int .i64 0), (13, .pointer (some ⟨t, 0, none⟩)), (14, .bool true), (15, .int .i64 0)]) (fun t w' => Below w.heap.size w w' ∧ Blk w' t #[.int .i64 2, .int .i64 V, .string ⟨#[]⟩] 27 ∧ Blk w' b13 #[.int .i64 2, .int .i64 V, .string ⟨#[]⟩] 27 ∧ w.heap.size ≤ t) ?_ (fun t w1 hR => ?_)
    · skip
      refine W.regY 19 rfl mixed (fun w17 dw17 => ?_) -- 11
      have hk18 := hkw15.drew dw17
      have hB19 := Drew.below hB16 dw17
      refine WY.take 0 rfl (by kernel_rfl) (by kernel_rfl) (by kernel_rfl) (fun c f w h => pn_post h) (.mv rfl) rfl ?_
      refine WY.take 1 rfl (by kernel_rfl) (by kernel_rfl) (by kernel_rfl) (fun c f w h => pn_post h) (.mv rfl) rfl ?_
      refine WY.take 2 rfl (by kernel_rfl) (by kernel_rfl) (by kernel_rfl) (fun c f w h => pn_post h) (.mv rfl) rfl ?_
      refine WY.take 3 rfl (by kernel_rfl) (by kernel_rfl) (by kernel_rfl) (fun c f w h => pn_post h) (.slT Tryd.underlying9 rfl rfl (T + D.length - K) (by omega) (by omega)) rfl ?_
      refine WY.take 4 rfl (by kernel_rfl) (by kernel_rfl) (by kernel_rfl) (fun c f w h => pn_post h) (.cat rfl rfl (by simp only [List.length_append, List.length_cons, List.length_nil, List.length_replicate, List.length_take, List.length_drop] at hsl ⊢; omega)) rfl ?_
      refine WY.take 5 rfl (by kernel_rfl) (by kernel_rfl) (by kernel_rfl) (fun c f w h => pn_post h) (.cat rfl rfl (by simp only [List.length_append, List.length_cons, List.length_nil, List.length_replicate, List.length_take, List.length_drop] at hsl ⊢; omega)) rfl ?_
      refine WY.take 6 rfl (by kernel_rfl) (by kernel_rfl) (by kernel_rfl) (fun c f w h => pn_post h) (.mv rfl) rfl ?_
      refine WY.take 7 rfl (by kernel_rfl) (by kernel_rfl) (by kernel_rfl) (fun c f w h => pn_post h) (.mv rfl) rfl ?_
      refine WY.take 8 rfl (by kernel_rfl) (by kernel_rfl) (by kernel_rfl) (fun c f w h => pn_post h) (.slF Tryd.underlying9 rfl rfl (T + D.length - K) (by omega) (by omega)) rfl ?_
      refine WY.take 9 rfl (by kernel_rfl) (by kernel_rfl) (by kernel_rfl) (fun c f w h => pn_post h) (.cat rfl rfl (by simp only [List.length_append, List.length_cons, List.length_nil, List.length_replicate, List.length_take, List.length_drop] at hsl ⊢; omega)) rfl ?_
      refine WY.br [10, 15] (by kernel_rfl) rfl ⟨⟨_, rfl, ?_⟩, ⟨_, rfl, ?_⟩, trivial⟩
      · skip
        refine WL.c1 hb17 rfl rfl ((token_real' _ V _ (h2 _ _ (by rw [hT]) (by rw [hT])))) (fun w20 hw20 => ?_)
        have hk21 := hk18.below hw20 hk18.lt
        have hB22 := btr hB19 hw20
        refine WL.nil <| ?_
        refine WY.take 11 rfl (by kernel_rfl) (by kernel_rfl) (by kernel_rfl) (fun c f w h => pn_post h) (.mv rfl) rfl ?_
        refine WY.take 12 rfl (by kernel_rfl) (by kernel_rfl) (by kernel_rfl) (fun c f w h => pn_post h) (.ext rfl rfl) rfl ?_
        refine WY.take 13 rfl (by kernel_rfl) (by kernel_rfl) (by kernel_rfl) (fun c f w h => pn_post h) (.ext rfl rfl) rfl ?_
        refine WY.take 14 rfl (by kernel_rfl) (by kernel_rfl) (by kernel_rfl) (fun c f w h => pn_post h) (.ext rfl rfl) rfl ?_
        refine WY.br [15] (by kernel_rfl) rfl ⟨⟨_, rfl, ?_⟩, trivial⟩
        · skip
          refine WL.alloc Tryd.zeroValue27 rfl (fun b23 wb23 eb23 hkb23 hub23 hsb23 => ?_)
          have hl25 : b13 < b23 := by rw [eb23]; exact hk21.lt
          have hk24 := hk21.upd hub23 (Nat.ne_of_lt hl25)
          have hB26 := Upd.below hB22 (by rw [eb23]; exact hB22.size) hub23
          have hgeb23 : w.heap.size ≤ b23 := by rw [eb23]; exact hB22.size
          refine WL.nil <| ?_
          refine WY.br [16] (by kernel_rfl) rfl ⟨⟨_, rfl, ?_⟩, trivial⟩
          · skip
            refine WL.stL rfl rfl hkb23 isz27 rfl rfl (fun w27 hkw27 huw27 hsw27 => ?_)
            have hk28 := hk24.upd huw27 (by omega)
            have hB29 := Upd.below hB26 (by omega) huw27
            refine WL.nil <| ?_
            refine WY.take 17 rfl (by kernel_rfl) (by kernel_rfl) (by kernel_rfl) (fun c f w h => pn_post h) (.as rfl) rfl ?_
            refine WY.take 18 rfl (by kernel_rfl) (by kernel_rfl) (by kernel_rfl) (fun c f w h => pn_post h) (.as rfl) rfl ?_
            refine WY.done (by kernel_rfl) ?_
            exact ⟨b23, ⟨rfl, rfl, rfl, rfl, rfl, rfl, rfl, rfl, trivial⟩, hB29, hkw27, hk28, by omega⟩
      · skip
        refine WL.alloc Tryd.zeroValue27 rfl (fun b30 wb30 eb30 hkb30 hub30 hsb30 => ?_)
        have hl32 : b13 < b30 := by rw [eb30]; exact hk18.lt
        have hk31 := hk18.upd hub30 (Nat.ne_of_lt hl32)
        have hB33 := Upd.below hB19 (by rw [eb30]; exact hB19.size) hub30
        have hgeb30 : w.heap.size ≤ b30 := by rw [eb30]; exact hB19.size
        refine WL.nil <| ?_
        refine WY.br [10] (by kernel_rfl) rfl ⟨⟨_, rfl, ?_⟩, trivial⟩
        · skip
          refine WL.c1 hb17 rfl rfl ((token_real' _ V _ (h2 _ _ (by rw [hT]) (by rw [hT])))) (fun w34 hw34 => ?_)
          have hk35 := hk31.below hw34 hk31.lt
          have hk36 := hkb30.below hw34 hkb30.lt
          have hB37 := btr hB33 hw34
          refine WL.nil <| ?_
          refine WY.take 11 rfl (by kernel_rfl) (by kernel_rfl) (by kernel_rfl) (fun c f w h => pn_post h) (.mv rfl) rfl ?_
          refine WY.take 12 rfl (by kernel_rfl) (by kernel_rfl) (by kernel_rfl) (fun c f w h => pn_post h) (.ext rfl rfl) rfl ?_
          refine WY.take 13 rfl (by kernel_rfl) (by kernel_rfl) (by kernel_rfl) (fun c f w h => pn_post h) (.ext rfl rfl) rfl ?_
          refine WY.take 14 rfl (by kernel_rfl) (by kernel_rfl) (by kernel_rfl) (fun c f w h => pn_post h) (.ext rfl rfl) rfl ?_
          refine WY.br [16] (by kernel_rfl) rfl ⟨⟨_, rfl, ?_⟩, trivial⟩
          · skip
            refine WL.stL rfl rfl hk36 isz27 rfl rfl (fun w38 hkw38 huw38 hsw38 => ?_)
            have hk39 := hk35.upd huw38 (by omega)
            have hB40 := Upd.below hB37 (by omega) huw38
            refine WL.nil <| ?_
            refine WY.take 17 rfl (by kernel_rfl) (by kernel_rfl) (by kernel_rfl) (fun c f w h => pn_post h) (.as rfl) rfl ?_
            refine WY.take 18 rfl (by kernel_rfl) (by kernel_rfl) (by kernel_rfl) (fun c f w h => pn_post h) (.as rfl) rfl ?_
            refine WY.done (by kernel_rfl) ?_
            exact ⟨b30, ⟨rfl, rfl, rfl, rfl, rfl, rfl, rfl, rfl, trivial⟩, hB40, hkw38, hk39, by omega⟩
    obtain ⟨hW, hk13, hk10, ht13⟩ := hR
    refine W.seq ?_
    refine W.reg ?_ -- 12
    refine WL.p (.mv rfl) rfl <| WL.p (.cvt Tryd.underlying35 Tryd.underlying3 rfl (i64w (by omega))) rfl <| WL.c1 hb19 rfl rfl ((hDec _)) (fun w41 hw41 => ?_)
    have hk42 := hk10.below hw41 hk10.lt
    have hk43 := hk13.below hw41 hk13.lt
    have hB44 := btr hW hw41
    refine WL.p (.cat rfl rfl (by simp only [List.length_append, List.length_cons, List.length_nil, List.length_replicate, List.length_take, List.length_drop] at hsl ⊢; omega)) rfl <| WL.p (.mv rfl) rfl <| WL.p (.cat rfl rfl (by simp only [List.length_append, List.length_cons, List.length_nil, List.length_replicate, List.length_take, List.length_drop] at hsl ⊢; omega)) rfl <| WL.p (.cat rfl rfl (by simp only [List.length_append, List.length_cons, List.length_nil, List.length_replicate, List.length_take, List.length_drop] at hsl ⊢; omega)) rfl <| WL.c1 hb17 rfl rfl ((token_real' _ (n * 65536) _ h3)) (fun w45 hw45 => ?_)
    have hk46 := hk42.below hw45 hk42.lt
    have hk47 := hk43.below hw45 hk43.lt
    have hB48 := btr hB44 hw45
    refine WL.p (.mv rfl) rfl <| WL.p (.ext rfl rfl) rfl <| WL.p (.ext rfl rfl) rfl <| WL.p (.ext rfl rfl) rfl <| WL.alloc Tryd.zeroValue27 rfl (fun b49 wb49 eb49 hkb49 hub49 hsb49 => ?_)
    have hl51 : b13 < b49 := by rw [eb49]; exact hk46.lt
    have hk50 := hk46.upd hub49 (Nat.ne_of_lt hl51)
    have hl53 : t < b49 := by rw [eb49]; exact hk47.lt
    have hk52 := hk47.upd hub49 (Nat.ne_of_lt hl53)
    have hB54 := Upd.below hB48 (by rw [eb49]; exact hB48.size) hub49
    have hgeb49 : w.heap.size ≤ b49 := by rw [eb49]; exact hB48.size
    refine WL.stL rfl rfl hkb49 isz27 rfl rfl (fun w55 hkw55 huw55 hsw55 => ?_)
    have hk56 := hk50.upd huw55 (by omega)
    have hk57 := hk52.upd huw55 (by omega)
    have hB58 := Upd.below hB54 (by omega) huw55
    refine WL.p (.as rfl) rfl <| WL.p (.as rfl) rfl <| WL.nil <| ?_
    refine W.seq ?_
    refine W.reg ?_ -- 13
    refine WL.c1 hb14 rfl rfl ((answers02 _)) (fun w59 hw59 => ?_)
    have hk60 := hk56.below hw59 hk56.lt
    have hk61 := hk57.below hw59 hk57.lt
    have hk62 := hkw55.below hw59 hkw55.lt
    have hB63 := btr hB58 hw59
    refine WL.p (.mv rfl) rfl <| WL.gy rfl rfl rfl rfl <| WL.p (.mv rfl) rfl <| WL.p (.pkT rfl rfl rfl) rfl <| WL.p (.mv rfl) rfl <| WL.gy rfl rfl rfl rfl <| WL.p (.mv rfl) rfl <| WL.p (.pkT rfl rfl rfl) rfl <| WL.p (.mv rfl) rfl <| WL.gy rfl rfl rfl rfl <| WL.p (.mv rfl) rfl <| WL.gy rfl rfl rfl rfl <| WL.p (.bis (true) (.eql rfl rfl) (by rfl)) rfl <| WL.p (.pkT rfl rfl rfl) rfl <| WL.p (.mv rfl) rfl <| WL.gy rfl rfl rfl rfl <| WL.p (.mv rfl) rfl <| WL.gy rfl rfl rfl rfl <| WL.p (.bis (true) (.eql rfl rfl) (by rfl)) rfl <| WL.p (.pkT rfl rfl rfl) rfl <| WL.p (.mv rfl) rfl <| WL.gy rfl rfl rfl rfl <| WL.r (Rd.ldA rfl hk60 Tryd.underlying27 rfl isz27) rfl <| WL.gy rfl rfl rfl rfl <| WL.r (Rd.ldA rfl hk61 Tryd.underlying27 rfl isz27) rfl <| WL.gy rfl rfl rfl rfl <| WL.p (.bis (true) (.eqAgg rfl rfl eg27 (eqA27 _ _ _ _ _ _)) (by simp)) rfl <| WL.p (.pkT rfl rfl rfl) rfl <| WL.p (.mv rfl) rfl <| WL.gy rfl rfl rfl rfl <| WL.p (.fa Tryd.underlying27 rfl Tryd.sizeOf3 (by decide) rfl) rfl <| WL.gy rfl rfl rfl rfl <| WL.r (Rd.ld (Tryd.isAgg3 _) rfl hk60 rfl) rfl <| WL.gy rfl rfl rfl rfl <| WL.p (.bis (true) (.eql rfl rfl) (by rfl)) rfl <| WL.p (.bis (true) (.pkT rfl rfl rfl) (by rfl)) rfl <| WL.p (.mv rfl) rfl <| WL.gy rfl rfl rfl rfl <| WL.p (.mv rfl) rfl <| WL.p (.pkT rfl rfl rfl) rfl <| WL.p (.mv rfl) rfl <| WL.gy rfl rfl rfl rfl <| WL.p (.mv rfl) rfl <| WL.gy rfl rfl rfl rfl <| WL.p (.bis (true) (.eql rfl rfl) (by rfl)) rfl <| WL.p (.pkT rfl rfl rfl) rfl <| WL.p (.mv rfl) rfl <| WL.gy rfl rfl rfl rfl <| WL.p (.fa Tryd.underlying27 rfl Tryd.sizeOf3 (by decide) rfl) rfl <| WL.gy rfl rfl rfl rfl <| WL.r (Rd.ld (Tryd.isAgg3 _) rfl hk62 rfl) rfl <| WL.gy rfl rfl rfl rfl <| WL.p (.mv rfl) rfl <| WL.gy rfl rfl rfl rfl <| WL.p (.cvt Tryd.underlying35 Tryd.underlying3 rfl (i64w (by omega))) rfl <| WL.gy rfl rfl rfl rfl <| WL.p (.mul rfl rfl (i64w (by omega))) rfl <| WL.gy rfl rfl rfl rfl <| WL.p (.bis (true) (.eql rfl rfl) (by simp)) rfl <| WL.p (.pkT rfl rfl rfl) rfl <| WL.p (.as rfl) rfl <| WL.nil <| ?_
    refine W.ret (W.ret1 rfl rfl ?_)
    exact ⟨rfl, hB63⟩

end Go.Proofs.YteaohajihhpnmaaDoor
