/-
  What the statements of layer 2 ask first: dec.Print and dec.PrintReal at two numbers.
-/
import Derived.Test.YtjghbcjnplcleaaGreatDoorDecC
import Derived.Test.YtjghbcjnplcleaaGreatDoorDecW
namespace Go.Proofs.YtjghbcjnplcleaaGreatDoor
open Go.RowKit

theorem digitsL_zero : digitsL 0 = [48] := by rw [digitsL_lt 0 (by omega)]; rfl
theorem digitsL_one : digitsL 1 = [49] := by rw [digitsL_lt 1 (by omega)]; rfl
theorem print_half : printL (norm 32768) = [48, 46, 53] := by
  have h1 : norm 32768 = 32768 := by rw [norm, fitsB_yes (by omega) (by omega)]; rfl
  have h2 : restL 32768 = [53] := by
    show fracL 32768 = _
    rw [fracL_step _ (by omega) (by omega), show 32768 * 10 % 65536 = 0 from rfl, fracL_zero]; rfl
  have h3 : wholeL 32768 = [48] := digitsL_zero
  rw [h1, printL, h2, h3]; rfl
theorem real_one : realL (norm 65536) = [49, 46, 48] := by
  have h1 : norm 65536 = 65536 := by rw [norm, fitsB_yes (by omega) (by omega)]; rfl
  have h2 : restL 65536 = [] := by rw [restL_iff]; rfl
  have h3 : wholeL 65536 = [49] := digitsL_one
  rw [h1, realL, h2, h3]; rfl

theorem bs_self (s : ByteArray) : bs s.data.toList = s := by
  apply ByteArray.ext
  simp [bs]

end Go.Proofs.YtjghbcjnplcleaaGreatDoor
