/-
  The contract of dec.Parse, for any text.
-/
import Derived.Test.YtjghbcjnplcleaaGreatDoorDecW
namespace Go.Proofs.YtjghbcjnplcleaaGreatDoor
open Go.RowKit

def parseP (l : List UInt8) : Int × Bool := if 64 < l.length then (0, false) else parseL l
theorem dec_Parse (l : List UInt8) (w : World) :
    Calls Tryz.prog 114 #[.string (bs l)] w fun e w' => e = .returned (.tuple #[.int .i64 (parseP l).1, .bool (parseP l).2]) ∧ Below w.heap.size w w' := by
  unfold parseP
  split
  · exact (dec_Parse_long l w (by assumption)).mono fun e w' h => ⟨h.1, h.2 ▸ Below.refl _ _⟩
  · exact dec_Parse_short l w (by omega)
theorem ref_Parse (l : List UInt8) (w : World) :
    Calls Tryz.prog 117 #[.string (bs l)] w fun e w' => e = .returned (.tuple #[.int .i64 (parseP l).1, .bool (parseP l).2]) ∧ Below w.heap.size w w' := by
  unfold parseP
  split
  · exact (ref_Parse_long l w (by assumption)).mono fun e w' h => ⟨h.1, h.2 ▸ Below.refl _ _⟩
  · exact ref_Parse_short l w (by omega)

end Go.Proofs.YtjghbcjnplcleaaGreatDoor
