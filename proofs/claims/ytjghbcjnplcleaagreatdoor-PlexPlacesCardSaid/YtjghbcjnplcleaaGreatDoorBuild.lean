/-
  The contracts of strings.Builder (copyCheck, WriteByte) at this dump: laid by hand, each one application of the kit's contract.
-/
import Derived.Test.YtjghbcjnplcleaaGreatDoorDecA
import Derived.Shelf.Strings.Builder1
namespace Go.Proofs.YtjghbcjnplcleaaGreatDoor
open Go.RowKit

def bren : Go.Shelf.Ren := ⟨fun | 240 => 119 | 276 => 177 | 167 => 85 | n => n, fun | 0 => 0 | 3 => 3 | 4 => 4 | 5 => 5 | 9 => 9 | 75 => 117 | 80 => 103 | 20 => 20 | 37 => 22 | 70 => 111 | 72 => 113 | 164 => 209 | n => n, fun | n => n⟩
theorem lays240 : Lays.n240 Tryz.prog bren := {
  mixed := by kernel_rfl
  f240 := Tryz.func119.trans (congrArg some (by kernel_rfl))
  f276 := Tryz.func177.trans (congrArg some (by kernel_rfl))
  t0 := Tryz.underlying0
  a0 := Tryz.isAgg0
  z0 := Tryz.sizeOf0
  v0 := Tryz.zeroValue0
  t4 := Tryz.underlying4
  a4 := Tryz.isAgg4
  z4 := Tryz.sizeOf4
  v4 := Tryz.zeroValue4
  t9 := Tryz.underlying9
  a9 := Tryz.isAgg9
  z9 := Tryz.sizeOf9
  v9 := Tryz.zeroValue9
  t20 := Tryz.underlying20
  a20 := Tryz.isAgg20
  z20 := Tryz.sizeOf20
  v20 := Tryz.zeroValue20
  t70 := Tryz.underlying111
  a70 := Tryz.isAgg111
  z70 := Tryz.sizeOf111
  v70 := Tryz.zeroValue111
  t72 := Tryz.underlying113
  a72 := Tryz.isAgg113
  z72 := Tryz.sizeOf113
  v72 := Tryz.zeroValue113
  t164 := Tryz.underlying209
  a164 := Tryz.isAgg209
  z164 := Tryz.sizeOf209
  v164 := Tryz.zeroValue209 }

theorem lays167 : Lays.n167 Tryz.prog bren := {
  mixed := by kernel_rfl
  f167 := Tryz.func85.trans (congrArg some (by kernel_rfl))
  f240 := Tryz.func119.trans (congrArg some (by kernel_rfl))
  f276 := Tryz.func177.trans (congrArg some (by kernel_rfl))
  t0 := Tryz.underlying0
  a0 := Tryz.isAgg0
  z0 := Tryz.sizeOf0
  v0 := Tryz.zeroValue0
  t4 := Tryz.underlying4
  a4 := Tryz.isAgg4
  z4 := Tryz.sizeOf4
  v4 := Tryz.zeroValue4
  t5 := Tryz.underlying5
  a5 := Tryz.isAgg5
  z5 := Tryz.sizeOf5
  v5 := Tryz.zeroValue5
  t9 := Tryz.underlying9
  a9 := Tryz.isAgg9
  z9 := Tryz.sizeOf9
  v9 := Tryz.zeroValue9
  t20 := Tryz.underlying20
  a20 := Tryz.isAgg20
  z20 := Tryz.sizeOf20
  v20 := Tryz.zeroValue20
  t37 := Tryz.underlying22
  a37 := Tryz.isAgg22
  z37 := Tryz.sizeOf22
  v37 := Tryz.zeroValue22
  t70 := Tryz.underlying111
  a70 := Tryz.isAgg111
  z70 := Tryz.sizeOf111
  v70 := Tryz.zeroValue111
  t72 := Tryz.underlying113
  a72 := Tryz.isAgg113
  z72 := Tryz.sizeOf113
  v72 := Tryz.zeroValue113
  t164 := Tryz.underlying209
  a164 := Tryz.isAgg209
  z164 := Tryz.sizeOf209
  v164 := Tryz.zeroValue209
  t75 := Tryz.underlying117
  a75 := Tryz.isAgg117
  z75 := Tryz.sizeOf117
  v75 := Tryz.zeroValue117 }

theorem bextra : Builder.Extra Tryz.prog bren where
  sizeBuilder := by kernel_rfl
  liesBuilder := by kernel_rfl
  t5 := Tryz.underlying5
  a5 := Tryz.isAgg5
  z5 := Tryz.sizeOf5
  v5 := Tryz.zeroValue5
  infoByte := by kernel_rfl
  cellsByte := by kernel_rfl
  sizeByte := by kernel_rfl
  neB5 := by decide

theorem WriteByte (B b : Nat) (bs : List Value) (c : Int) (w : World) (h : Lib.IsBuilder 113 5 B b bs w) (hlen : bs.length + 1 ≤ 140737488355328) (hBw : B ≤ w.heap.size) :
    Calls Tryz.prog 85 #[.pointer (some ⟨b, 0, none⟩), .int .u8 c] w fun e w' => e = .returned .nilIface ∧ (Lib.BuilderAt 113 5 B b (.pointer (some ⟨b, 0, none⟩)) (bs ++ [.int .u8 c]) w' ∧ Below B w w') :=
  Any.Builder_WriteByte lays167 bextra B b bs c w h hlen hBw

end Go.Proofs.YtjghbcjnplcleaaGreatDoor
