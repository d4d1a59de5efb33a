/-
  Plain: the two readings of a token agree.
-/
import Derived.Test.YtjghbcjnplcleaaGreatDoorTokF
namespace Go.Proofs.YtjghbcjnplcleaaGreatDoor
open Go.RowKit

theorem digN_iff (l : List UInt8) : digN l = l.length ↔ l.all isDig = true := by
  rw [digN_all, List.isEmpty_iff, List.drop_eq_nil_iff]
  have := digN_le l
  omega

theorem cutE_yes (B : List UInt8) (x : UInt8) (hx : isE x = true) : ∀ A : List UInt8, (∀ c ∈ A, isE c = false) → cutE (A ++ x :: B) = (A, B, true)
  | [], _ => by simp [cutE, hx]
  | c :: A, h => by
    have ih := cutE_yes B x hx A fun d hd => h d (by simp [hd])
    simp [cutE, ih, h c (by simp)]
theorem cutE_no : ∀ l : List UInt8, (∀ c ∈ l, isE c = false) → cutE l = (l, [], false)
  | [], _ => rfl
  | c :: l, h => by
    have ih := cutE_no l fun d hd => h d (by simp [hd])
    simp [cutE, ih, h c (by simp)]
theorem cutE_at (l : List UInt8) (k : Nat) (hk : k < l.length) (h : ∀ c ∈ l.take k, isE c = false) (hx : isE l[k] = true) : (cutE l).1.length = k := by
  have hj : l = l.take k ++ l[k] :: l.drop (k + 1) := by
    conv => lhs; rw [← List.take_append_drop k l, List.drop_eq_getElem_cons hk]
  have e : cutE l = (l.take k, l.drop (k + 1), true) := by
    conv => lhs; rw [hj]
    exact cutE_yes _ _ hx _ h
  rw [e]; simp; omega
theorem isE_take (l : List UInt8) (k : Nat) (hk : k < l.length) (h : ∀ c ∈ l.take k, isE c = false) (hx : isE l[k] = false) : ∀ c ∈ l.take (k + 1), isE c = false := by
  intro c hc
  rw [List.take_succ_eq_append_getElem hk, List.mem_append] at hc
  rcases hc with hc | hc
  · exact h c hc
  · simp only [List.mem_singleton] at hc; rw [hc]; exact hx

/-- does a text begin with a sign -/
def signQ : List UInt8 → Bool
  | [] => false
  | c :: _ => c == 45 || c == 43

/-- ref.Token's real number -/
def realR (l : List UInt8) : TokR :=
  if (cutE l).2.2 then
    (if (powerL (cutE l).2.1).2 then finL (signedL (cutE l).1).1 (signedL (cutE l).1).2 (powerL (cutE l).2.1).1 else tokNone)
  else finL (signedL (cutE l).1).1 (signedL (cutE l).1).2 0

theorem signed_cutE (l : List UInt8) : signedL (cutE l).1 = ((signedL l).1, (cutE (signedL l).2).1) ∧ (cutE l).2 = (cutE (signedL l).2).2 := by
  cases l with
  | nil => exact ⟨rfl, rfl⟩
  | cons c r =>
    by_cases hE : isE c = true
    · have h1 : c ≠ 45 := by rintro rfl; exact absurd hE (by decide)
      have h2 : c ≠ 43 := by rintro rfl; exact absurd hE (by decide)
      simp [signedL, cutE, hE, h1, h2]
    · have hE' : isE c = false := by simpa using hE
      by_cases h1 : c = 45
      · subst h1; simp [signedL, cutE, hE']
      · by_cases h2 : c = 43
        · subst h2; simp [signedL, cutE, hE']
        · simp [signedL, cutE, hE', h1, h2]

theorem realR_eq (l : List UInt8) : realR l = realL2 l := by
  obtain ⟨h1, h2⟩ := signed_cutE l
  unfold realR realL2
  rw [h1, h2]
  cases hf : (cutE (signedL l).2).2.2 with
  | true => rfl
  | false =>
    simp only [Bool.false_eq_true, if_false]
    rw [(cutE_no_join _ hf).1]

theorem mantOk_all (l : List UInt8) (h : mantOk l = true) : ∀ c ∈ l, isDig c = true ∨ c = 46 := by
  obtain ⟨h1, h2⟩ := mantOk_digits l h
  intro c hc
  by_cases hd : 46 ∈ l
  · obtain ⟨A, B, rfl, hA⟩ := split_at 46 l hd
    rw [cutDot_yes B A hA] at h1 h2
    rcases List.mem_append.1 hc with hc | hc
    · exact Or.inl (h1 c hc)
    · rcases List.mem_cons.1 hc with hc | hc
      · exact Or.inr hc
      · exact Or.inl (h2 c hc)
  · rw [cutDot_no l hd] at h1
    exact Or.inl (h1 c hc)

theorem dig_notE (c : UInt8) (h : isDig c = true) : isE c = false := by
  obtain ⟨h1, h2⟩ := isDig_bounds h
  cases he : isE c with
  | false => rfl
  | true =>
    simp only [isE, Bool.or_eq_true, beq_iff_eq] at he
    rcases he with rfl | rfl <;> simp at h1 h2

theorem signedL_dig (c : UInt8) (r : List UInt8) (h : isDig c = true) : signedL (c :: r) = (false, c :: r) := by
  have h1 : c ≠ 45 := by rintro rfl; exact absurd h (by decide)
  have h2 : c ≠ 43 := by rintro rfl; exact absurd h (by decide)
  simp [signedL, h1, h2]

/-- the token at a text with a base -/
theorem tokenL_radix (l A B : List UInt8) (hl : l.length ≤ 64) (h : radixOk l = true) (hc : cutC 35 l = (A, B, true)) : tokenL l = radixV A B := by
  have hr : radixL l = radixV A B := by unfold radixL; rw [h, if_pos rfl, hc]
  obtain ⟨A', B', hs, hc', hA0, -, hdig, -⟩ := radixOk_split l h
  rw [hc'] at hc
  simp only [Prod.mk.injEq, and_true] at hc
  obtain ⟨rfl, rfl⟩ := hc
  cases ho : (radixL l).ok with
  | true => unfold tokenL; rw [if_neg (by omega), ho, if_pos rfl, hr]
  | false =>
    have hn : radixV A' B' = tokNone := by
      rw [hr] at ho
      unfold radixV at ho ⊢
      split
      · rfl
      · next hb =>
        rw [if_neg hb] at ho
        cases hx : radixLoop (natOf A') B' 0 false with
        | none => rfl
        | some q =>
          rw [hx] at ho
          obtain ⟨n, ov⟩ := q
          unfold radixRes at ho
          simp only at ho
          split at ho <;> cases ho
    have hsg : signedL l = (false, l) := by
      rw [hs]
      cases A' with
      | nil => exact absurd rfl hA0
      | cons c A' => exact signedL_dig c _ (hdig c (by simp))
    have hmem : (35 : UInt8) ∈ l := by rw [hs]; simp
    have hw : (wholeT l).2 = false := by
      have : l.all isDig = false := by
        cases hh : l.all isDig with
        | false => rfl
        | true => exact absurd (List.all_eq_true.1 hh 35 hmem) (by decide)
      unfold wholeT
      rw [hsg]
      simp [this]
    have hcE : ∃ p, (cutE l).1 = A' ++ 35 :: p := by
      rw [hs]
      clear hs hmem hsg hw hr h hc' ho hn
      induction A' with
      | nil => exact ⟨(cutE B').1, by simp [cutE, isE]⟩
      | cons c A' ih =>
        by_cases hA : A' = []
        · subst hA
          refine ⟨(cutE B').1, ?_⟩
          have := dig_notE c (hdig c (by simp))
          have h35 : isE 35 = false := by decide
          simp [cutE, this, h35]
        · obtain ⟨p, hp⟩ := ih hA fun d hd => hdig d (by simp [hd])
          refine ⟨p, ?_⟩
          have := dig_notE c (hdig c (by simp))
          simp [cutE, this, hp]
    obtain ⟨p, hp⟩ := hcE
    have hm : ∀ x, (35 : UInt8) ∈ x → mantOk x = false := by
      intro x hx
      cases hh : mantOk x with
      | false => rfl
      | true => rcases mantOk_all x hh 35 hx with h | h <;> exact absurd h (by decide)
    have hreal : realL2 l = tokNone := by
      unfold realL2
      rw [hsg]
      simp only
      have h1 := hm (cutE l).1 (by rw [hp]; simp)
      have h2 := hm l hmem
      split
      · split
        · unfold finL; rw [h1]; rfl
        · rfl
      · unfold finL; rw [h2]; rfl
    unfold tokenL
    rw [if_neg (by omega), ho, hw, hreal, hn]
    rfl

theorem tokenL_plain (l : List UInt8) (hl : l.length ≤ 64) (h : radixOk l = false) : tokenL l = if (wholeT l).2 then tokInt (wholeT l).1 else realR l := by
  have hr : (radixL l).ok = false := by unfold radixL; rw [h]; rfl
  unfold tokenL
  rw [if_neg (by omega), hr, realR_eq]
  rfl
theorem tokenL_long (l : List UInt8) (hl : 64 < l.length) : tokenL l = tokNone := by unfold tokenL; rw [if_pos hl]

end Go.Proofs.YtjghbcjnplcleaaGreatDoor
