/-
  The reference's scaled: a number by its digits and the place of its point.
-/
import Derived.Test.YtjghbcjnplcleaaGreatDoorDecR
namespace Go.Proofs.YtjghbcjnplcleaaGreatDoor
open Go.RowKit

/-- digits ahead of the point, and those behind it -/
def wholeD (digits : List UInt8) (p : Int) : List UInt8 := digits.take p.toNat ++ List.replicate (p.toNat - digits.length) 48
def restD (digits : List UInt8) (p : Int) : List UInt8 := List.replicate (-p).toNat 48 ++ digits.drop p.toNat

theorem wholeD_len (digits : List UInt8) (p : Int) : (wholeD digits p).length = p.toNat := by simp [wholeD]; omega
theorem wholeD_at (digits : List UInt8) (p : Int) (k : Nat) (h : k < (wholeD digits p).length) : (wholeD digits p)[k] = if hk : k < digits.length then digits[k] else 48 := by
  have h' := wholeD_len digits p
  apply Option.some.inj
  rw [← List.getElem?_eq_getElem h]
  unfold wholeD
  by_cases hk : k < digits.length
  · rw [dif_pos hk, List.getElem?_append_left (by simp; omega), List.getElem?_take, if_pos (by omega), List.getElem?_eq_getElem hk]
  · rw [dif_neg hk, List.getElem?_append_right (by simp; omega), List.getElem?_replicate, if_pos (by simp; omega)]
theorem natOf_mono (a b : List UInt8) : natOf a ≤ natOf (a ++ b) := by
  unfold natOf
  rw [List.foldl_append]
  generalize a.foldl (fun n c => 10 * n + (c.toNat - 48)) 0 = n
  induction b generalizing n with
  | nil => simp
  | cons c r ih =>
    rw [List.foldl_cons]
    exact Nat.le_trans (by omega) (ih _)
theorem natOf_take_le (l : List UInt8) (k : Nat) : natOf (l.take k) ≤ natOf l := by
  conv => rhs; rw [← List.take_append_drop k l]
  exact natOf_mono _ _
theorem natOf_trim (l : List UInt8) : natOf (l.dropWhile (· == 48)) = natOf l := by
  induction l with
  | nil => rfl
  | cons c r ih =>
    rw [List.dropWhile_cons]
    split
    · next h =>
      rw [ih]
      have : c = 48 := by simpa using h
      subst this
      simp [natOf]
    · rfl
theorem natOf_ge (l : List UInt8) (n : Nat) : n * 10 ^ l.length ≤ l.foldl (fun n c => 10 * n + (c.toNat - 48)) n := by
  induction l generalizing n with
  | nil => simp
  | cons c r ih =>
    rw [List.foldl_cons, List.length_cons, Nat.pow_succ]
    refine Nat.le_trans ?_ (ih _)
    rw [Nat.mul_comm (10 ^ r.length) 10, ← Nat.mul_assoc]
    exact Nat.mul_le_mul_right _ (by omega)
theorem trim_long (l : List UInt8) (h : ∀ c ∈ l, isDig c = true) : 5 < (l.dropWhile (· == 48)).length ↔ 99999 < natOf l := by
  rw [← natOf_trim l]
  have ht : ∀ c ∈ l.dropWhile (· == 48), isDig c = true := fun c hc => h c (List.dropWhile_sublist _ |>.subset hc)
  constructor
  · intro hl
    cases hd : l.dropWhile (· == 48) with
    | nil => rw [hd] at hl; simp at hl
    | cons c r =>
      have hc : (c == 48) = false := by
        have := List.head_dropWhile_not (p := (· == 48)) (l := l) (by rw [hd]; simp)
        simpa [hd] using this
      have hc1 := isDig_bounds (ht c (by rw [hd]; simp))
      have hc2 : c ≠ 48 := by simpa using hc
      have hc3 : 1 ≤ c.toNat - 48 := by
        rcases Nat.lt_or_ge 48 c.toNat with h' | h'
        · omega
        · exact absurd (UInt8.toNat_inj.1 (by show c.toNat = 48; omega)) hc2
      rw [hd] at hl
      simp only [List.length_cons] at hl
      have h1 := natOf_ge r (10 * 0 + (c.toNat - 48))
      have h2 : 1 * 10 ^ 5 ≤ (10 * 0 + (c.toNat - 48)) * 10 ^ r.length := Nat.mul_le_mul (by omega) (Nat.pow_le_pow_right (by decide) (by omega))
      unfold natOf
      rw [List.foldl_cons]
      omega
  · intro hn
    rcases Nat.lt_or_ge 5 (l.dropWhile (· == 48)).length with h' | h'
    · exact h'
    · have h1 := natOf_lt _ ht
      have h2 : 10 ^ (l.dropWhile (· == 48)).length ≤ 10 ^ 5 := Nat.pow_le_pow_right (by decide) h'
      omega

/-- the rounds' whole part is by itself -/
theorem rounds_split (k : Nat) : ∀ (n : Int) (d : List Nat), rounds k n d = (n * 2 ^ k + (rounds k 0 d).1, (rounds k 0 d).2) := by
  induction k with
  | zero => intro n d; simp [rounds]
  | succ k ih =>
    intro n d
    rw [rounds, rounds, ih, ih (2 * 0 + (dbl d).2)]
    rw [Int.pow_succ]
    ext
    · simp only
      rw [Int.add_mul, Int.mul_zero, Int.zero_add, Int.mul_comm 2 n, Int.mul_assoc, Int.mul_comm 2 (2 ^ k)]
      omega
    · rfl
theorem rounds_snoc (k : Nat) : ∀ (n : Int) (d : List Nat), rounds (k + 1) n d = (2 * (rounds k n d).1 + (dbl (rounds k n d).2).2, (dbl (rounds k n d).2).1) := by
  induction k with
  | zero => intro n d; rfl
  | succ k ih => intro n d; rw [rounds, ih]; rfl
theorem rounds_digits (k : Nat) : ∀ (n : Int) (d : List Nat), (∀ x ∈ d, x < 10) → ∀ x ∈ (rounds k n d).2, x < 10 := by
  induction k with
  | zero => intro n d h; exact h
  | succ k ih => intro n d h; exact ih _ _ (dbl_digits d)

theorem rawL_big (W R : List UInt8) (h : ∀ c ∈ W, isDig c = true) (hn : 99999 < natOf W) : rawL W R = none := by
  unfold rawL; rw [if_pos ((trim_long W h).2 hn)]
theorem rawL_fit (W R : List UInt8) (h : ∀ c ∈ W, isDig c = true) (hR : ∀ c ∈ R, isDig c = true) (hn : natOf W ≤ 99999) (b : Int) (d : List Nat) (hb : rounds 17 0 (digitsOf R) = (b, d)) :
    rawL W R = some ((natOf W : Int) * 65536 + (b + 1) / 2) := by
  unfold rawL
  rw [if_neg (fun h' => by have := (trim_long W h).1 h'; omega), natOf_trim, rounds_split]
  rw [rounds_snoc] at hb
  have hc := dbl_carry _ (rounds_digits 16 0 _ (digitsOf_lt R hR))
  simp only [Prod.mk.injEq] at hb
  have e : (2 : Int) ^ 16 = 65536 := by decide
  rw [e]
  generalize rounds 16 0 (digitsOf R) = q at *
  have hb1 := hb.1
  generalize (natOf W : Int) = N
  have : N * 65536 + q.1 + ((dbl q.2).2 : Int) = N * 65536 + (b + 1) / 2 := by omega
  exact congrArg some this

end Go.Proofs.YtjghbcjnplcleaaGreatDoor
