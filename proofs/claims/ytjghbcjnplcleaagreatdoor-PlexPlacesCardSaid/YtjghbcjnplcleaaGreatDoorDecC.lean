/-
  dec.Print, dec.PrintReal, ref.Print, ref.PrintReal: each returns the same text.
-/
import Derived.Test.YtjghbcjnplcleaaGreatDoorDecB
namespace Go.Proofs.YtjghbcjnplcleaaGreatDoor
open Go.RowKit

theorem norm_lo (n : Int) : -2147483648 ≤ norm n := by unfold norm fitsB; split <;> simp at * <;> omega
theorem norm_hi (n : Int) : norm n ≤ 2147483647 := by unfold norm fitsB; split <;> simp at * <;> omega
theorem signL_size (n : Int) : (bs (signL n)).size ≤ 1 := by rw [bs_size]; unfold signL; split <;> simp
theorem wholeL_size (n : Int) (h : -2147483648 ≤ n) (h' : n ≤ 2147483647) : (bs (wholeL n)).size ≤ 20 := digitsL_size _ (by omega)
theorem restL_size (n : Int) : (bs (restL n)).size ≤ 16 := by rw [bs_size]; exact fracL_len _

/-- a number's text -/
def printL (n : Int) : List UInt8 := signL n ++ wholeL n ++ (if restL n = [] then [] else 46 :: restL n)
/-- .. with a point in any case -/
def realL (n : Int) : List UInt8 := signL n ++ wholeL n ++ 46 :: (if restL n = [] then [48] else restL n)

theorem ret_str {a b : ByteArray} (h : a = b) : Ending.returned (.string a) = Ending.returned (.string b) := by rw [h]

set_option maxHeartbeats 400000 in
theorem dec_Print (n : Int) (w : World) :
    Calls Tryz.prog 121 #[.int .i64 n] w fun e w' => e = .returned (.string (bs (printL (norm n)))) ∧ Below w.heap.size w w' := by
  have h1 := signL_size (norm n)
  have h2 := wholeL_size (norm n) (norm_lo n) (norm_hi n)
  have h3 := restL_size (norm n)
  by_cases h0 : restL (norm n) = []
  · have H0 := hid h0
    have he : (bs (restL (norm n))).toList.isEmpty = true := by rw [h0]; simp [bs]
    clear h0
    go_enter Tryz.func121, Tryz.ntmps121
    go_wp2_with (go_at_call 178; refine (dec_parts _ _).mono ?_; rintro e w1 ⟨rfl, hb⟩)
    go_ret
    exact ⟨ret_str (by rw [printL, if_pos H0.out, bs_append]; simp), hb⟩
  · have H0 := hid h0
    have he : (bs (restL (norm n))).toList.isEmpty = false := by
      cases h : restL (norm n) with
      | nil => exact absurd h h0
      | cons a l => simp [bs]
    clear h0
    go_enter Tryz.func121, Tryz.ntmps121
    go_wp2_with (go_at_call 178; refine (dec_parts _ _).mono ?_; rintro e w1 ⟨rfl, hb⟩)
    go_ret
    refine ⟨ret_str ?_, hb⟩
    rw [printL, if_neg H0.out]
    show bs _ ++ bs _ ++ bs [46] ++ bs _ = _
    rw [bs_append, bs_append, bs_append]; simp

theorem fracL_ne (f : Nat) (h : 0 < f) (h' : f < 65536) : fracL f ≠ [] := by rw [fracL_step f h h']; simp
theorem restL_iff (n : Int) : restL n = [] ↔ n.natAbs % 65536 = 0 := by
  unfold restL
  constructor
  · intro h
    by_cases h0 : n.natAbs % 65536 = 0
    · exact h0
    · exact absurd h (fracL_ne _ (by omega) (by omega))
  · intro h; rw [h, fracL_zero]
end Go.Proofs.YtjghbcjnplcleaaGreatDoor
