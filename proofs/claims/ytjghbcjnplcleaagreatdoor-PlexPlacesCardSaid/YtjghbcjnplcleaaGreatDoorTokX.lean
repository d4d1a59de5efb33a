/-
  The law DecTokens, walked.
-/
import Derived.Test.YtjghbcjnplcleaaGreatDoorTokW
import Derived.Test.YtjghbcjnplcleaaGreatDoorAns
namespace Go.Proofs.YtjghbcjnplcleaaGreatDoor
open Go.RowKit

theorem ref_Token (l : List UInt8) (w : World) :
    Calls Tryz.prog 118 #[.string (bs l)] w fun e w' => e = .returned (tokenL l).val ∧ Below w.heap.size w w' := by
  by_cases hl : 64 < l.length
  · rw [tokenL_long l hl]; exact ref_Token_long l w hl
  · cases hR : radixOk l with
    | false => rw [tokenL_plain l (by omega) hR]; exact ref_Token_plain l w (by omega) hR
    | true =>
      obtain ⟨A, B, hs, hc, hA0, hA2, hdig, hB⟩ := radixOk_split l hR
      rw [tokenL_radix l A B (by omega) hR hc]
      subst hs
      match A, hA0, hA2, hdig, hl with
      | [x], _, _, hdig, hl => exact ref_Token_radix1 x B w (by simp at hl; omega) hB (hdig x (by simp))
      | [x, y], _, _, hdig, hl => exact ref_Token_radix2 x y B w (by simp at hl; omega) hB (hdig x (by simp)) (hdig y (by simp))


end Go.Proofs.YtjghbcjnplcleaaGreatDoor
