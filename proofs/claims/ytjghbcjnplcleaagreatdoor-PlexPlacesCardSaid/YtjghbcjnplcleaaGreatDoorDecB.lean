/-
  dec.parts, dec.Print, dec.PrintReal, ref.Print, ref.PrintReal.
-/
import Derived.Test.YtjghbcjnplcleaaGreatDoorDecP
import Derived.Test.YtjghbcjnplcleaaGreatDoorShelf
import Derived.Test.YtjghbcjnplcleaaGreatDoorBuild
namespace Go.Proofs.YtjghbcjnplcleaaGreatDoor
open Go.RowKit

def signL (n : Int) : List UInt8 := if n < 0 then [45] else []
def wholeL (n : Int) : List UInt8 := digitsL (n.natAbs / 65536)
def restL (n : Int) : List UInt8 := fracL (n.natAbs % 65536)

theorem byteCells_snoc (l : List UInt8) (x : Int) (h : 0 ≤ x) (h' : x < 256) : Lib.byteCells l ++ [.int .u8 x] = Lib.byteCells (l ++ [ch x]) := by
  have : ((ch x).toNat : Int) = x := by
    unfold ch; rw [UInt8.toNat_ofNat']; omega
  simp [Lib.byteCells, this]
theorem byteCells_len (l : List UInt8) : (Lib.byteCells l).length = l.length := by simp [Lib.byteCells]
theorem ret3 {a b c a' b' c' : ByteArray} (h1 : a = a') (h2 : b = b') (h3 : c = c') : Ending.returned (.tuple #[.string a, .string b, .string c]) = Ending.returned (.tuple #[.string a', .string b', .string c']) := by
  rw [h1, h2, h3]

set_option maxHeartbeats 400000 in
theorem dec_parts_neg (n : Int) (w : World) (h : -2147483648 ≤ n) (hn : n < 0) :
    Calls Tryz.prog 178 #[.int .i64 n] w fun e w' => e = .returned (.tuple #[.string (bs (signL n)), .string (bs (wholeL n)), .string (bs (restL n))]) ∧ Below w.heap.size w w' := by
  have hf := fitsB_yes h (by omega)
  have hm := and_mask16 (-n) (by omega) (by omega)
  go_enter Tryz.func178, Tryz.ntmps178
  go_wp2_with (go_at_call 195; refine (fix_Fits _ _).mono ?_; rintro e w' ⟨rfl, rfl⟩)
  go_loopw [6] (fun f wr => ∃ (m : Nat) (l : List UInt8), f = .int .i64 m ∧ m < 65536 ∧ Lib.IsBuilder 113 5 w.heap.size w.heap.size (Lib.byteCells l) wr ∧ Below w.heap.size w wr ∧ l.length + (fracL m).length ≤ 16 ∧ restL n = l ++ fracL m) (fun f _ => (fracL (intOf f).toNat).length)
  case atStart => exact ⟨(n.natAbs % 65536), [], by go_num, by omega, Lib.fresh_isBuilder _ _ _, (Below.refl _ _).alloc (Nat.le_refl _) _, by simpa using fracL_len _, rfl⟩
  case round =>
    obtain ⟨m, l, rfl, hm1, hB, hbel, hlen, hrest⟩ := hrel
    have Hrest := hid hrest; clear hrest
    have hsz := hbel.size
    by_cases hm0 : 0 < m
    · have hst := fracL_step m hm0 hm1
      have Hst := hid hst; clear hst
      have hm2 := and_mask16 (m * 10) (by omega) (by omega)
      clear hm
      go_wp2_with (go_at_call 85; go_must (refine (WriteByte _ _ _ _ _ hB (by rw [byteCells_len]; omega) hsz).mono ?_); rintro e w1 ⟨rfl, hB1, hbel1⟩)
      have hc := byteCells_snoc l (48 + (m : Int) * 10 / 65536) (by omega) (by omega)
      rw [hc] at hB1
      have e1 : ((m * 10 / 65536 : Nat) : Int) = (m : Int) * 10 / 65536 := by omega
      have hl2 := congrArg List.length Hst.out
      simp only [List.length_cons] at hl2
      refine ⟨⟨m * 10 % 65536, l ++ [ch (48 + (m : Int) * 10 / 65536)], by go_num, by omega, .inr hB1, hbel.trans hbel1, ?_, ?_⟩, ?_⟩
      · simp; omega
      · rw [Hrest.out, Hst.out, e1]; simp
      · have e2 : ((m : Int) * 10 % 65536).toNat = m * 10 % 65536 := by omega
        have e3 : ((m : Int)).toNat = m := by omega
        simp only [intOf, e2, e3]; omega
    · have hm00 : m = 0 := by omega
      have Hm := hid hm00; clear hm00
      go_wp2_with first | (go_at_call 220; refine (dec_digits (-n / 65536).toNat _ _ (by omega) (by omega) (by omega)).mono ?_; rintro e w' ⟨rfl, rfl⟩) | (go_at_call 88; refine (Tryz.Builder_String_any _ _ _ _ hB hsz).mono ?_; rintro e w1 ⟨rfl, hbel1⟩)
      go_ret3
      have e1 : (-n / 65536).toNat = n.natAbs / 65536 := by omega
      exact ⟨ret3 (by rw [signL, if_pos hn]; rfl) (by rw [e1]; rfl) (by rw [Hrest.out, Hm.out, fracL_zero, List.append_nil]; rfl), hbel.trans hbel1⟩

set_option maxHeartbeats 400000 in
theorem dec_parts_pos (n : Int) (w : World) (h : 0 ≤ n) (hn : n ≤ 2147483647) :
    Calls Tryz.prog 178 #[.int .i64 n] w fun e w' => e = .returned (.tuple #[.string (bs (signL n)), .string (bs (wholeL n)), .string (bs (restL n))]) ∧ Below w.heap.size w w' := by
  have hf := fitsB_yes (by omega) hn
  have hm := and_mask16 n (by omega) (by omega)
  go_enter Tryz.func178, Tryz.ntmps178
  go_wp2_with (go_at_call 195; refine (fix_Fits _ _).mono ?_; rintro e w' ⟨rfl, rfl⟩)
  go_loopw [6] (fun f wr => ∃ (m : Nat) (l : List UInt8), f = .int .i64 m ∧ m < 65536 ∧ Lib.IsBuilder 113 5 w.heap.size w.heap.size (Lib.byteCells l) wr ∧ Below w.heap.size w wr ∧ l.length + (fracL m).length ≤ 16 ∧ restL n = l ++ fracL m) (fun f _ => (fracL (intOf f).toNat).length)
  case atStart => exact ⟨(n.natAbs % 65536), [], by go_num, by omega, Lib.fresh_isBuilder _ _ _, (Below.refl _ _).alloc (Nat.le_refl _) _, by simpa using fracL_len _, rfl⟩
  case round =>
    obtain ⟨m, l, rfl, hm1, hB, hbel, hlen, hrest⟩ := hrel
    have Hrest := hid hrest; clear hrest
    have hsz := hbel.size
    by_cases hm0 : 0 < m
    · have hst := fracL_step m hm0 hm1
      have Hst := hid hst; clear hst
      have hm2 := and_mask16 (m * 10) (by omega) (by omega)
      clear hm
      go_wp2_with (go_at_call 85; go_must (refine (WriteByte _ _ _ _ _ hB (by rw [byteCells_len]; omega) hsz).mono ?_); rintro e w1 ⟨rfl, hB1, hbel1⟩)
      have hc := byteCells_snoc l (48 + (m : Int) * 10 / 65536) (by omega) (by omega)
      rw [hc] at hB1
      have e1 : ((m * 10 / 65536 : Nat) : Int) = (m : Int) * 10 / 65536 := by omega
      have hl2 := congrArg List.length Hst.out
      simp only [List.length_cons] at hl2
      refine ⟨⟨m * 10 % 65536, l ++ [ch (48 + (m : Int) * 10 / 65536)], by go_num, by omega, .inr hB1, hbel.trans hbel1, ?_, ?_⟩, ?_⟩
      · simp; omega
      · rw [Hrest.out, Hst.out, e1]; simp
      · have e2 : ((m : Int) * 10 % 65536).toNat = m * 10 % 65536 := by omega
        have e3 : ((m : Int)).toNat = m := by omega
        simp only [intOf, e2, e3]; omega
    · have hm00 : m = 0 := by omega
      have Hm := hid hm00; clear hm00
      go_wp2_with first | (go_at_call 220; refine (dec_digits (n / 65536).toNat _ _ (by omega) (by omega) (by omega)).mono ?_; rintro e w' ⟨rfl, rfl⟩) | (go_at_call 88; refine (Tryz.Builder_String_any _ _ _ _ hB hsz).mono ?_; rintro e w1 ⟨rfl, hbel1⟩)
      go_ret3
      have e1 : (n / 65536).toNat = n.natAbs / 65536 := by omega
      exact ⟨ret3 (by rw [signL, if_neg (by omega)]; rfl) (by rw [e1]; rfl) (by rw [Hrest.out, Hm.out, fracL_zero, List.append_nil]; rfl), hbel.trans hbel1⟩

set_option maxHeartbeats 400000 in
theorem dec_parts_not (n : Int) (w : World) (h : fitsB n = false) :
    Calls Tryz.prog 178 #[.int .i64 n] w fun e w' => e = .returned (.tuple #[.string (bs (signL 0)), .string (bs (wholeL 0)), .string (bs (restL 0))]) ∧ Below w.heap.size w w' := by
  have hf := h
  have hm := and_mask16 0 (by omega) (by omega)
  go_enter Tryz.func178, Tryz.ntmps178
  go_wp2_with (go_at_call 195; refine (fix_Fits _ _).mono ?_; rintro e w' ⟨rfl, rfl⟩)
  go_loopw [6] (fun f wr => ∃ (m : Nat) (l : List UInt8), f = .int .i64 m ∧ m < 65536 ∧ Lib.IsBuilder 113 5 w.heap.size w.heap.size (Lib.byteCells l) wr ∧ Below w.heap.size w wr ∧ l.length + (fracL m).length ≤ 16 ∧ restL 0 = l ++ fracL m) (fun f _ => (fracL (intOf f).toNat).length)
  case atStart => exact ⟨0, [], by go_num, by omega, Lib.fresh_isBuilder _ _ _, (Below.refl _ _).alloc (Nat.le_refl _) _, by simpa using fracL_len _, rfl⟩
  case round =>
    obtain ⟨m, l, rfl, hm1, hB, hbel, hlen, hrest⟩ := hrel
    have Hrest := hid hrest; clear hrest
    have hsz := hbel.size
    by_cases hm0 : 0 < m
    · have hst := fracL_step m hm0 hm1
      have Hst := hid hst; clear hst
      have hm2 := and_mask16 (m * 10) (by omega) (by omega)
      clear hm
      go_wp2_with (go_at_call 85; go_must (refine (WriteByte _ _ _ _ _ hB (by rw [byteCells_len]; omega) hsz).mono ?_); rintro e w1 ⟨rfl, hB1, hbel1⟩)
      have hc := byteCells_snoc l (48 + (m : Int) * 10 / 65536) (by omega) (by omega)
      rw [hc] at hB1
      have e1 : ((m * 10 / 65536 : Nat) : Int) = (m : Int) * 10 / 65536 := by omega
      have hl2 := congrArg List.length Hst.out
      simp only [List.length_cons] at hl2
      refine ⟨⟨m * 10 % 65536, l ++ [ch (48 + (m : Int) * 10 / 65536)], by go_num, by omega, .inr hB1, hbel.trans hbel1, ?_, ?_⟩, ?_⟩
      · simp; omega
      · rw [Hrest.out, Hst.out, e1]; simp
      · have e2 : ((m : Int) * 10 % 65536).toNat = m * 10 % 65536 := by omega
        have e3 : ((m : Int)).toNat = m := by omega
        simp only [intOf, e2, e3]; omega
    · have hm00 : m = 0 := by omega
      have Hm := hid hm00; clear hm00
      go_wp2_with first | (go_at_call 220; refine (dec_digits 0 _ _ (by omega) (by omega) (by omega)).mono ?_; rintro e w' ⟨rfl, rfl⟩) | (go_at_call 88; refine (Tryz.Builder_String_any _ _ _ _ hB hsz).mono ?_; rintro e w1 ⟨rfl, hbel1⟩)
      go_ret3
      exact ⟨ret3 rfl rfl (by rw [Hrest.out, Hm.out, fracL_zero, List.append_nil]; rfl), hbel.trans hbel1⟩

/-- what the texts are of: n, or 0 where n does not fit -/
def norm (n : Int) : Int := if fitsB n then n else 0

theorem dec_parts (n : Int) (w : World) :
    Calls Tryz.prog 178 #[.int .i64 n] w fun e w' => e = .returned (.tuple #[.string (bs (signL (norm n))), .string (bs (wholeL (norm n))), .string (bs (restL (norm n)))]) ∧ Below w.heap.size w w' := by
  unfold norm
  by_cases h1 : n < -2147483648
  · rw [fitsB_lo h1]; exact dec_parts_not n w (fitsB_lo h1)
  · by_cases h2 : 2147483647 < n
    · rw [fitsB_hi h2]; exact dec_parts_not n w (fitsB_hi h2)
    · rw [fitsB_yes (by omega) (by omega)]
      by_cases h3 : n < 0
      · exact dec_parts_neg n w (by omega) h3
      · exact dec_parts_pos n w (by omega) (by omega)

end Go.Proofs.YtjghbcjnplcleaaGreatDoor
