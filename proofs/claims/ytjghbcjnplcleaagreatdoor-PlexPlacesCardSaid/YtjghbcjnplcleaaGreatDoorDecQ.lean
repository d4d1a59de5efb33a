/-
  Plain: the two readers of a mantissa agree.
-/
import Derived.Test.YtjghbcjnplcleaaGreatDoorDecT
namespace Go.Proofs.YtjghbcjnplcleaaGreatDoor

theorem digN_take (l : List UInt8) : (l.take (digN l)).all isDig = true := by
  induction l with
  | nil => rfl
  | cons c r ih =>
    rw [digN_cons]
    split
    · next h => simp [h] at ih ⊢; exact ih
    · rfl
theorem digN_head (l : List UInt8) (c : UInt8) (r : List UInt8) (h : l.drop (digN l) = c :: r) : isDig c = false := by
  induction l with
  | nil => simp at h
  | cons x t ih =>
    rw [digN_cons] at h
    split at h
    · next hx => rw [List.drop_succ_cons] at h; exact ih h
    · next hx => simp at h; rw [← h.1]; simpa using hx
theorem digN_all (l : List UInt8) : l.all isDig = (l.drop (digN l)).isEmpty := by
  induction l with
  | nil => rfl
  | cons c r ih =>
    rw [digN_cons]
    cases h : isDig c with
    | true => simp [h] at ih ⊢; exact ih
    | false => simp [h]
theorem digN_full (l : List UInt8) (h : l.all isDig = true) : l.take (digN l) = l := by
  rw [digN_all, List.isEmpty_iff, List.drop_eq_nil_iff] at h
  exact List.take_of_length_le h
theorem dot_not (l : List UInt8) (h : l.all isDig = true) : 46 ∉ l := by
  intro hm
  have := List.all_eq_true.1 h 46 hm
  revert this; decide

theorem plain_mant (r : List UInt8) : (plainR r).2.2.2 = mantOk r ∧ (mantOk r = true → plainR r = ((cutDot r).1 ++ (cutDot r).2.1, (cutDot r).1.length, (cutDot r).2.2, true)) := by
  have ht := digN_take r
  have hsplit := List.take_append_drop (digN r) r
  cases hd : r.drop (digN r) with
  | nil =>
    have hall : r.all isDig = true := by rw [digN_all, hd]; rfl
    have hf := digN_full r hall
    have hc := cutDot_no r (dot_not r hall)
    have hp : plainR r = (r, digN r, false, !r.isEmpty) := by
      unfold plainR; rw [hd]; simp only [hf]
    have hlen : digN r = r.length := by
      have := congrArg List.length hf
      have := digN_le r
      simp at *; omega
    have hm : mantOk r = !r.isEmpty := by
      unfold mantOk
      rw [hc]
      simp only [hall]
      cases r <;> simp
    refine ⟨by rw [hp, hm], fun h => ?_⟩
    rw [hp, hc, ← hm, h, hlen]
    simp
  | cons c R2 =>
    rw [hd] at hsplit
    have hnd := digN_head r c R2 hd
    generalize hD : r.take (digN r) = D1 at *
    have hD1 : 46 ∉ D1 := dot_not D1 ht
    by_cases h46 : c = 46
    · subst h46
      have hc : cutDot r = (D1, R2, true) := by rw [← hsplit]; exact cutDot_yes R2 D1 hD1
      have hp : plainR r = (D1 ++ R2.take (digN R2), digN r, true, (R2.drop (digN R2)).isEmpty && !(D1 ++ R2.take (digN R2)).isEmpty) := by
        unfold plainR; rw [hd]; simp only [hD, if_true]
      have hm : mantOk r = (R2.all isDig && decide (0 < D1.length + R2.length)) := by
        unfold mantOk; rw [hc]; simp only [ht, Bool.true_and]
      have hlen : digN r = D1.length := by
        rw [← hD, List.length_take]; have := digN_le r; omega
      cases hall : R2.all isDig with
      | true =>
        have hf := digN_full R2 hall
        have he : (R2.drop (digN R2)).isEmpty = true := by rw [← digN_all]; exact hall
        rw [hf, he] at hp
        rw [hall] at hm
        have e : (!(D1 ++ R2).isEmpty) = decide (0 < D1.length + R2.length) := by
          cases D1 <;> cases R2 <;> simp <;> omega
        rw [Bool.true_and] at hp hm
        rw [e, ← hm] at hp
        refine ⟨by rw [hp], fun h => ?_⟩
        rw [hp, hc, h, hlen]
      | false =>
        have he : (R2.drop (digN R2)).isEmpty = false := by rw [← digN_all]; exact hall
        rw [hall, Bool.false_and] at hm
        rw [he, Bool.false_and] at hp
        exact ⟨by rw [hp, hm], fun h => by rw [hm] at h; cases h⟩
    · have hp : plainR r = (D1, digN r, false, false) := by
        unfold plainR; rw [hd]; simp only [hD, if_neg h46]
      have hm : mantOk r = false := by
        unfold mantOk
        by_cases h2 : 46 ∈ r
        · obtain ⟨A, B, hr, hA⟩ := split_at 46 r h2
          have hcm : c ∈ A := by
            have h3 : D1 ++ c :: R2 = A ++ 46 :: B := hsplit.trans hr
            rcases List.append_eq_append_iff.1 h3 with ⟨xs, h4, h5⟩ | ⟨xs, h4, h5⟩
            · cases xs with
              | nil => simp at h5; exact absurd h5.1 h46
              | cons x xs =>
                simp at h5
                rw [h4, h5.1]; simp
            · cases xs with
              | nil => simp at h5; exact absurd h5.1.symm h46
              | cons x xs =>
                simp at h5
                exfalso; apply hD1; rw [h4, h5.1]; simp
          have hall : A.all isDig = false := by
            rw [List.all_eq_false]
            exact ⟨c, hcm, by simp [hnd]⟩
          rw [hr, cutDot_yes B A hA]; simp only [hall, Bool.false_and]
        · rw [cutDot_no r h2]
          have hall : r.all isDig = false := by
            rw [List.all_eq_false]
            exact ⟨c, by rw [← hsplit]; simp, by simp [hnd]⟩
          simp only [hall, Bool.false_and]
      exact ⟨by rw [hp, hm], fun h => by rw [hm] at h; cases h⟩

end Go.Proofs.YtjghbcjnplcleaaGreatDoor
