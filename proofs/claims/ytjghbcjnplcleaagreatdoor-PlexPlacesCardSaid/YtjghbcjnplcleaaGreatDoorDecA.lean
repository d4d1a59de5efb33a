/-
  The contracts of the small number functions: fix.Fits, ref.Fits, dec.digits, ref.udec, ref.Dec.
-/
import Derived.Test.YtjghbcjnplcleaaGreatDoorRows
import Derived.Test.YtjghbcjnplcleaaGreatDoorMem
namespace Go.Proofs.YtjghbcjnplcleaaGreatDoor
open Go.RowKit

def fitsB (n : Int) : Bool := decide (-2147483648 ≤ n) && decide (n ≤ 2147483647)

theorem fitsB_yes {n : Int} (h : -2147483648 ≤ n) (h' : n ≤ 2147483647) : fitsB n = true := by simp [fitsB, h, h']
theorem fitsB_lo {n : Int} (h : n < -2147483648) : fitsB n = false := by
  have : ¬ (-2147483648 ≤ n) := by omega
  simp [fitsB, this]
theorem fitsB_hi {n : Int} (h : 2147483647 < n) : fitsB n = false := by
  have : ¬ (n ≤ 2147483647) := by omega
  simp [fitsB, this]

set_option maxHeartbeats 400000 in
theorem fix_Fits (n : Int) (w : World) :
    Calls Tryz.prog 195 #[.int .i64 n] w fun e w' => e = .returned (.bool (fitsB n)) ∧ w = w' := by
  go_enter Tryz.func195, Tryz.ntmps195
  go_wp2
  · go_ret
    have h : -2147483648 ≤ n := by assumption
    exact ⟨by simp [fitsB, h], rfl⟩
  · go_ret
    have h : n < -2147483648 := by assumption
    exact ⟨by simp [fitsB_lo h], rfl⟩

set_option maxHeartbeats 400000 in
theorem ref_Fits (n : Int) (w : World) :
    Calls Tryz.prog 62 #[.int .i64 n] w fun e w' => e = .returned (.bool (fitsB n)) ∧ w = w' := by
  go_enter Tryz.func62, Tryz.ntmps62
  go_wp2
  · go_ret
    have h : -2147483648 ≤ n := by assumption
    exact ⟨by simp [fitsB, h], rfl⟩
  · go_ret
    have h : n < -2147483648 := by assumption
    exact ⟨by simp [fitsB_lo h], rfl⟩

/-- a byte, of a number -/
def ch (n : Int) : UInt8 := UInt8.ofNat n.toNat
def bs (l : List UInt8) : ByteArray := ⟨l.toArray⟩
theorem bs_append (a b : List UInt8) : bs a ++ bs b = bs (a ++ b) := by
  apply ByteArray.ext
  simp [bs]
theorem bs_size (l : List UInt8) : (bs l).size = l.length := by simp [bs, ByteArray.size]

/-- the digits of a number -/
def digitsL (n : Nat) : List UInt8 :=
  if n < 10 then [ch (48 + n)] else digitsL (n / 10) ++ [ch (48 + (n % 10 : Nat))]
termination_by n

theorem digitsL_lt (n : Nat) (h : n < 10) : digitsL n = [ch (48 + n)] := by rw [digitsL, if_pos h]
theorem digitsL_ge (n : Nat) (h : 10 ≤ n) : digitsL n = digitsL (n / 10) ++ [ch (48 + (n % 10 : Nat))] := by rw [digitsL, if_neg (by omega)]

theorem encode_digit (n : Int) (h : 0 ≤ n) (h' : n < 10) : Utf8.encode (48 + n) = bs [ch (48 + n)] := by
  obtain ⟨k, rfl⟩ := Int.eq_ofNat_of_zero_le h
  have : k < 10 := by omega
  match k, this with
  | 0, _ => rfl
  | 1, _ => rfl
  | 2, _ => rfl
  | 3, _ => rfl
  | 4, _ => rfl
  | 5, _ => rfl
  | 6, _ => rfl
  | 7, _ => rfl
  | 8, _ => rfl
  | 9, _ => rfl

theorem digitsL_small (n : Int) (h : 0 ≤ n) (h' : n < 10) : bs (digitsL n.toNat) = Utf8.encode (48 + n) := by
  rw [encode_digit n h h', digitsL, if_pos (by omega), Int.toNat_of_nonneg h]
theorem digitsL_big (n : Int) (h' : 10 ≤ n) : bs (digitsL (n / 10).toNat) ++ Utf8.encode (48 + n % 10) = bs (digitsL n.toNat) := by
  rw [encode_digit _ (by omega) (by omega), bs_append, digitsL_ge n.toNat (by omega)]
  have e1 : (n / 10).toNat = n.toNat / 10 := by omega
  have e2 : n % 10 = ((n.toNat % 10 : Nat) : Int) := by omega
  rw [e1, e2]

theorem digitsL_len (k : Nat) : ∀ n : Nat, n < 10 ^ (k + 1) → (digitsL n).length ≤ k + 1 := by
  induction k with
  | zero => intro n h; rw [digitsL, if_pos (by simpa using h)]; simp
  | succ k ih =>
    intro n h
    rw [digitsL]
    split
    · simp
    · have := ih (n / 10) (by rw [Nat.pow_succ] at h; omega)
      simp; omega
theorem digitsL_size (n : Nat) (h : n < 18446744073709551616) : (bs (digitsL n)).size ≤ 20 := by
  rw [bs_size]; exact digitsL_len 19 n (Nat.lt_trans h (by decide))
theorem encode_size (n : Int) : (Utf8.encode n).size ≤ 4 := encode_size_le n

set_option maxHeartbeats 400000 in
theorem dec_digits (k : Nat) : ∀ (n : Int) (w : World), 0 ≤ n → n ≤ k → n ≤ 4294967296 →
    Calls Tryz.prog 220 #[.int .i64 n] w fun e w' => e = .returned (.string (bs (digitsL n.toNat))) ∧ w = w' := by
  induction k with
  | zero =>
    intro n w h0 hk hb
    have hn : n < 10 := by omega
    go_enter Tryz.func220, Tryz.ntmps220
    go_wp2_with fail
    go_ret
    exact ⟨by rw [digitsL_small n h0 hn]; rfl, rfl⟩
  | succ k ih =>
    intro n w h0 hk hb
    by_cases hn : n < 10
    · go_enter Tryz.func220, Tryz.ntmps220
      go_wp2_with fail
      go_ret
      exact ⟨by rw [digitsL_small n h0 hn]; rfl, rfl⟩
    · have hn' : 10 ≤ n := by omega
      have hs1 := digitsL_size (n / 10).toNat (by omega)
      have hs2 := encode_size (48 + n % 10)
      go_enter Tryz.func220, Tryz.ntmps220
      go_wp2_with (go_at_call 220; refine (ih (n / 10) _ (by omega) (by omega) (by omega)).mono ?_; rintro e w' ⟨rfl, rfl⟩)
      go_ret
      exact ⟨by rw [← digitsL_big n hn']; rfl, rfl⟩

/-- string([]byte(c)), the slice just laid -/
theorem byte_str (w : World) (x : Int) : (convert 22 9 (.slice (some ⟨w.heap.size, 0, none⟩) 1 1)).run Tryz.prog (w.alloc (.cells #[.int .u8 x] 5)) =
    .ok (.string (bs [ch x])) (w.alloc (.cells #[.int .u8 x] 5)) := by
  have h := run_convert_bytes_arg (P := Tryz.prog) (w.alloc (.cells #[.int .u8 x] 5)) 22 5 Tryz.underlying22 Tryz.underlying5 w.heap.size 0 1 1 [x] rfl
    (by intro i hi; obtain rfl : i = 0 := by omega
        go_simp) 9 Tryz.underlying9
  exact h

set_option maxHeartbeats 400000 in
theorem ref_udec (n : Nat) (w : World) (hn : n < 18446744073709551616):
    Calls Tryz.prog 64 #[.int .u64 n] w fun e w' => e = .returned (.string (bs (digitsL n))) ∧ Below w.heap.size w w' := by
  have hbyte := byte_str
  go_enter Tryz.func64, Tryz.ntmps64
  go_wp2_with fail
  go_loopw [0, 3] (fun u s wr => ∃ (m : Nat) (t : List UInt8), m < 18446744073709551616 ∧ u = .int .u64 m ∧ s = .string (bs t) ∧ Below w.heap.size w wr ∧ t.length + (digitsL m).length ≤ 20 ∧ digitsL n = digitsL m ++ t) (fun u _ _ => (intOf u).toNat)
  case atStart => exact ⟨n, [], hn, rfl, rfl, Below.refl _ _, by have := digitsL_size n hn; rw [bs_size] at this; simpa using this, by simp⟩
  case round =>
    obtain ⟨m, t, hm, rfl, rfl, hb, hl, hd⟩ := hrel
    have Hd := hid hd; clear hd
    have hs : (bs t).size ≤ 20 := by rw [bs_size]; omega
    have hs1 : (bs [ch (48 + (m : Int) % 10)]).size ≤ 1 := by rw [bs_size]; simp
    have hsz := hb.size
    by_cases h10 : m < 10
    · have hz : (((m : Int) / 10) == 0) = true := by rw [beq_iff_eq]; omega
      go_wp2
      go_ret
      have e : (m : Int) % 10 = (m : Int) := by omega
      exact ⟨by rw [Hd.out, digitsL_lt m h10, ← bs_append, e]; rfl, hb.alloc hsz _⟩
    · have hz : (((m : Int) / 10) == 0) = false := by rw [beq_eq_false_iff_ne]; omega
      have hg := digitsL_ge m (by omega)
      have Hg := hid hg; clear hg
      go_wp2
      refine ⟨⟨m / 10, ch (48 + ((m % 10 : Nat) : Int)) :: t, by omega, by go_num, by rw [bs_append]; simp, hb.alloc hsz _, ?_, ?_⟩, by simp [intOf]; omega⟩
      · have := congrArg List.length Hg.out
        simp at this ⊢; omega
      · rw [Hd.out, Hg.out]; simp

theorem ref_udecI (n : Int) (w : World) (h0 : 0 ≤ n) (hn : n < 18446744073709551616):
    Calls Tryz.prog 64 #[.int .u64 n] w fun e w' => e = .returned (.string (bs (digitsL n.toNat))) ∧ Below w.heap.size w w' := by
  have h := ref_udec n.toNat w (by omega)
  rw [Int.toNat_of_nonneg h0] at h
  exact h

/-- a whole number's digits, with its sign -/
def decL (n : Int) : List UInt8 := if n < 0 then 45 :: digitsL n.natAbs else digitsL n.natAbs

set_option maxHeartbeats 400000 in
theorem ref_Dec (n : Int) (w : World) (h : -9223372036854775808 ≤ n) (h' : n ≤ 9223372036854775807) :
    Calls Tryz.prog 37 #[.int .i64 n] w fun e w' => e = .returned (.string (bs (decL n))) ∧ Below w.heap.size w w' := by
  by_cases hn : n < 0
  · have hs1 := digitsL_size (-(n + 1) + 1).toNat (by omega)
    go_enter Tryz.func37, Tryz.ntmps37
    go_wp2_with (go_at_call 64; refine (ref_udecI _ _ (by omega) (by omega)).mono ?_; rintro e w' ⟨rfl, hb⟩)
    go_ret
    have e1 : (-(n + 1) + 1).toNat = n.natAbs := by omega
    refine ⟨?_, hb⟩
    rw [decL, if_pos hn, ← e1]
    show Ending.returned (.string (bs [45] ++ bs _)) = _
    rw [bs_append]; rfl
  · go_enter Tryz.func37, Tryz.ntmps37
    go_wp2_with (go_at_call 64; refine (ref_udecI _ _ (by omega) (by omega)).mono ?_; rintro e w' ⟨rfl, hb⟩)
    go_ret
    have e1 : n.toNat = n.natAbs := by omega
    refine ⟨?_, hb⟩
    rw [decL, if_neg (by omega), ← e1]
    rfl
theorem decL_size (n : Int) (h : -9223372036854775808 ≤ n) (h' : n ≤ 9223372036854775807) : (bs (decL n)).size ≤ 21 := by
  have := digitsL_size n.natAbs (by omega)
  rw [bs_size] at *
  unfold decL; split <;> simp <;> omega

end Go.Proofs.YtjghbcjnplcleaaGreatDoor
