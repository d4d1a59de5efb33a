/-
  What the claim leans on, part 2: pruned and joined by my own tool out of the texts that stand in wip/ as templates.
-/
import Derived.Test.YtjghbcjnplcleaaGreatDoorPb1
import Derived.WalkKit
import Derived.WalkSpells
import Derived.WalkLawsBesides
import Derived.Test.YtjghbcjnplcleaaGreatDoorRows
import Derived.Shelf.Strings.Builder1
import Derived.Shelf.Strings.Builder2
import Derived.Shelf.Strings.Trim
import Derived.Shelf.Small.Utf8
import Derived.Shelf.Small.Strs
import Derived.Shelf.Strings.BuilderF
import Derived.Shelf.Strings.BuilderK
import Derived.Shelf.Strings.Builder2Cap
import Derived.Shelf.Strconv.Itoa0
import Derived.Shelf.Strings.Search1
import Derived.Shelf.Strings.Search2
import Derived.Shelf.Strings.Search3
import Derived.Shelf.Strings.Cut
import Derived.Shelf.Strings.Count
import Derived.Shelf.LaysM
import Derived.Shelf.Strings.Shaped
import Derived.Shelf.Strings.Prefix
import Derived.Shelf.Unicode.Decode
import Derived.Shelf.Strings.Runes
import Derived.Shelf.Strings.IndexAny
import Derived.Shelf.Strings.AsciiSet
import Derived.Shelf.Strings.IndexAnyAll
import Derived.Shelf.Bits.Mul64
import Derived.Shelf.Strings.Repeat
import Derived.Shelf.Unicode.DecodeSlow
import Derived.Shelf.Unicode.DecodeAny
import Derived.Shelf.Unicode.DecodeLast
import Derived.Shelf.Strings.BuilderCap
import Derived.Test.YtjghbcjnplcleaaGreatDoorProg
import Derived.Shelf.Strings.SlTrimAscii
import Derived.Deep.QuietTactic
import Derived.BigQuiet
import Derived.Deep.DeepCutAuto
import Derived.StillTail
import Derived.Laws.BytesString
import Derived.Laws.Slices
import Derived.Carry
import Derived.ChangeSlices
import Derived.Lib.ConvBytes
import Derived.Laws.AppendOwn
import Derived.Laws.CopyRow
import Derived.Deep.MidRow
import Derived.Lib.SliceRun
import Derived.Recover
import Derived.Lib.AppendZerosOnto
import Derived.Laws.OwnMore
import Derived.Deep.Slices
import Derived.ProofKit
import Derived.OpenShut
import Derived.Lib.FrozenHead
import Derived.Lib.AppendStr
import Derived.Test.YtjghbcjnplcleaaGreatDoorCards
import Derived.Test.YtjghbcjnplcleaaGreatDoorTie
import Derived.Deep.DeepHandedRow
import Derived.Lib.LaidTab
namespace Go.Proofs.YtjghbcjnplcleaaGreatDoor
open Go.Proofs.Tryz
open Go.RowKit
theorem u8_eq {c d : UInt8} (h : (c.toNat : Int) = (d.toNat : Int)) : c = d := UInt8.toNat_inj.1 (by omega)
theorem u8_ne {c d : UInt8} (h : ¬ (c.toNat : Int) = (d.toNat : Int)) : c ≠ d := fun e => h (by rw [e])
theorem u8_dec (c d : UInt8) : decide ((c.toNat : Int) = (d.toNat : Int)) = (c == d) := by
 by_cases h : c = d
 ·
  subst h; simp
 ·
  rw [beq_false_of_ne h]; exact decide_eq_false fun e => h (u8_eq e)
theorem ref_Blank (c : UInt8) (w : World) :
  Calls Tryz.prog 35 #[.int .u8 (c.toNat : Int)] w fun e w' => e = .returned (.bool (blankB c)) ∧ w = w' := by
 obtain ⟨R, hR⟩ : ∃ R, R = blankB c := ⟨_, rfl⟩
 rw [← hR]
 unfold blankB at hR
 rw [← u8_dec c 0, ← u8_dec c 9, ← u8_dec c 10, ← u8_dec c 12, ← u8_dec c 13, ← u8_dec c 32] at hR
 refine W.enter func35 rfl ntmps35 (Nat.le_of_ble_eq_true rfl) ?_
 refine W.seq <| W.reg <| WL.p (.as rfl) rfl <| WL.nil <| ?_
 refine W.seq <| W.reg <| WL.p (.mv rfl) rfl <| WL.p (.eql rfl rfl) rfl <| WL.p (.mv rfl) rfl <| WL.gd rfl rfl rfl (fun g1 => ?_) (fun g1 => ?_)
 ·
  have g1' := of_decide_eq_false g1
  refine WL.p (.mv rfl) rfl <| WL.gy rfl rfl rfl g1 <| WL.p (.eql rfl rfl) rfl <| WL.p (.pkF rfl g1 rfl) rfl <| WL.p (.mv rfl) rfl <| WL.gd rfl rfl rfl (fun g2 => ?_) (fun g2 => ?_)
  ·
   have g2' := of_decide_eq_false g2
   refine WL.p (.mv rfl) rfl <| WL.gy rfl rfl rfl g2 <| WL.p (.eql rfl rfl) rfl <| WL.p (.pkF rfl g2 rfl) rfl <| WL.p (.mv rfl) rfl <| WL.gd rfl rfl rfl (fun g3 => ?_) (fun g3 => ?_)
   ·
    have g3' := of_decide_eq_false g3
    refine WL.p (.mv rfl) rfl <| WL.gy rfl rfl rfl g3 <| WL.p (.eql rfl rfl) rfl <| WL.p (.pkF rfl g3 rfl) rfl <| WL.p (.mv rfl) rfl <| WL.gd rfl rfl rfl (fun g4 => ?_) (fun g4 => ?_)
    ·
     have g4' := of_decide_eq_false g4
     refine WL.p (.mv rfl) rfl <| WL.gy rfl rfl rfl g4 <| WL.p (.eql rfl rfl) rfl <| WL.p (.pkF rfl g4 rfl) rfl <| WL.p (.mv rfl) rfl <| WL.gd rfl rfl rfl (fun g5 => ?_) (fun g5 => ?_)
     ·
      have g5' := of_decide_eq_false g5
      refine WL.p (.mv rfl) rfl <| WL.gy rfl rfl rfl g5 <| WL.p (.eql rfl rfl) rfl <| WL.p (.pkF rfl g5 rfl) rfl <| WL.p (.as rfl) rfl <| WL.nil <| ?_
      refine W.ret (W.ret1 rfl rfl ?_)
      exact ⟨ret_bool (by rw [hR]; simp_all), rfl⟩
     have g5' := of_decide_eq_true g5
     refine WL.gn rfl rfl rfl g5 <| WL.p (.pkT rfl g5 rfl) rfl <| WL.p (.as rfl) rfl <| WL.nil <| ?_
     refine W.ret (W.ret1 rfl rfl ?_)
     exact ⟨ret_bool (by rw [hR]; simp_all), rfl⟩
    have g4' := of_decide_eq_true g4
    refine WL.gn rfl rfl rfl g4 <| WL.p (.pkT rfl g4 rfl) rfl <| WL.p (.mv rfl) rfl <| WL.gn rfl rfl rfl rfl <| WL.gn rfl rfl rfl rfl <| WL.p (.pkT rfl rfl rfl) rfl <| WL.p (.as rfl) rfl <| WL.nil <| ?_
    refine W.ret (W.ret1 rfl rfl ?_)
    exact ⟨ret_bool (by rw [hR]; simp_all), rfl⟩
   have g3' := of_decide_eq_true g3
   refine WL.gn rfl rfl rfl g3 <| WL.p (.pkT rfl g3 rfl) rfl <| WL.p (.mv rfl) rfl <| WL.gn rfl rfl rfl rfl <| WL.gn rfl rfl rfl rfl <| WL.p (.pkT rfl rfl rfl) rfl <| WL.p (.mv rfl) rfl <| WL.gn rfl rfl rfl rfl <| WL.gn rfl rfl rfl rfl <| WL.p (.pkT rfl rfl rfl) rfl <| WL.p (.as rfl) rfl <| WL.nil <| ?_
   refine W.ret (W.ret1 rfl rfl ?_)
   exact ⟨ret_bool (by rw [hR]; simp_all), rfl⟩
  have g2' := of_decide_eq_true g2
  refine WL.gn rfl rfl rfl g2 <| WL.p (.pkT rfl g2 rfl) rfl <| WL.p (.mv rfl) rfl <| WL.gn rfl rfl rfl rfl <| WL.gn rfl rfl rfl rfl <| WL.p (.pkT rfl rfl rfl) rfl <| WL.p (.mv rfl) rfl <| WL.gn rfl rfl rfl rfl <| WL.gn rfl rfl rfl rfl <| WL.p (.pkT rfl rfl rfl) rfl <| WL.p (.mv rfl) rfl <| WL.gn rfl rfl rfl rfl <| WL.gn rfl rfl rfl rfl <| WL.p (.pkT rfl rfl rfl) rfl <| WL.p (.as rfl) rfl <| WL.nil <| ?_
  refine W.ret (W.ret1 rfl rfl ?_)
  exact ⟨ret_bool (by rw [hR]; simp_all), rfl⟩
 have g1' := of_decide_eq_true g1
 refine WL.gn rfl rfl rfl g1 <| WL.p (.pkT rfl g1 rfl) rfl <| WL.p (.mv rfl) rfl <| WL.gn rfl rfl rfl rfl <| WL.gn rfl rfl rfl rfl <| WL.p (.pkT rfl rfl rfl) rfl <| WL.p (.mv rfl) rfl <| WL.gn rfl rfl rfl rfl <| WL.gn rfl rfl rfl rfl <| WL.p (.pkT rfl rfl rfl) rfl <| WL.p (.mv rfl) rfl <| WL.gn rfl rfl rfl rfl <| WL.gn rfl rfl rfl rfl <| WL.p (.pkT rfl rfl rfl) rfl <| WL.p (.mv rfl) rfl <| WL.gn rfl rfl rfl rfl <| WL.gn rfl rfl rfl rfl <| WL.p (.pkT rfl rfl rfl) rfl <| WL.p (.as rfl) rfl <| WL.nil <| ?_
 refine W.ret (W.ret1 rfl rfl ?_)
 exact ⟨ret_bool (by rw [hR]; simp_all), rfl⟩
theorem ref_Delimiter (c : UInt8) (w : World) :
  Calls Tryz.prog 61 #[.int .u8 (c.toNat : Int)] w fun e w' => e = .returned (.bool (delimB c)) ∧ w = w' := by
 obtain ⟨R, hR⟩ : ∃ R, R = delimB c := ⟨_, rfl⟩
 rw [← hR]
 unfold delimB at hR
 rw [← u8_dec c 40, ← u8_dec c 41, ← u8_dec c 60, ← u8_dec c 62, ← u8_dec c 91, ← u8_dec c 93, ← u8_dec c 123, ← u8_dec c 125, ← u8_dec c 47, ← u8_dec c 37] at hR
 refine W.enter func61 rfl ntmps61 (Nat.le_of_ble_eq_true rfl) ?_
 refine W.seq <| W.reg <| WL.p (.as rfl) rfl <| WL.nil <| ?_
 refine W.seq <| W.seq <| W.reg <| WL.p (.mv rfl) rfl <| WL.nil <| ?_
 refine W.block <| W.seq <| W.seq <| W.reg <| WL.p (.eql rfl rfl) rfl <| WL.p (.as rfl) rfl <| WL.nil <| ?_
 refine W.cond rfl (fun h1 => ?_) (fun h1 => ?_)
 ·
  have h1' := of_decide_eq_true h1
  refine W.skip <| W.condT rfl h1 ?_
  refine W.seq <| W.reg <| WL.p (.as rfl) rfl <| WL.nil <| ?_
  refine W.ret (W.ret1 rfl rfl ?_)
  exact ⟨ret_bool (by rw [hR]; simp_all), rfl⟩
 have h1' := of_decide_eq_false h1
 refine W.seq <| W.reg <| WL.p (.eql rfl rfl) rfl <| WL.p (.as rfl) rfl <| WL.nil <| ?_
 refine W.cond rfl (fun h2 => ?_) (fun h2 => ?_)
 ·
  have h2' := of_decide_eq_true h2
  refine W.skip <| W.condT rfl h2 ?_
  refine W.seq <| W.reg <| WL.p (.as rfl) rfl <| WL.nil <| ?_
  refine W.ret (W.ret1 rfl rfl ?_)
  exact ⟨ret_bool (by rw [hR]; simp_all), rfl⟩
 have h2' := of_decide_eq_false h2
 refine W.seq <| W.reg <| WL.p (.eql rfl rfl) rfl <| WL.p (.as rfl) rfl <| WL.nil <| ?_
 refine W.cond rfl (fun h3 => ?_) (fun h3 => ?_)
 ·
  have h3' := of_decide_eq_true h3
  refine W.skip <| W.condT rfl h3 ?_
  refine W.seq <| W.reg <| WL.p (.as rfl) rfl <| WL.nil <| ?_
  refine W.ret (W.ret1 rfl rfl ?_)
  exact ⟨ret_bool (by rw [hR]; simp_all), rfl⟩
 have h3' := of_decide_eq_false h3
 refine W.seq <| W.reg <| WL.p (.eql rfl rfl) rfl <| WL.p (.as rfl) rfl <| WL.nil <| ?_
 refine W.cond rfl (fun h4 => ?_) (fun h4 => ?_)
 ·
  have h4' := of_decide_eq_true h4
  refine W.skip <| W.condT rfl h4 ?_
  refine W.seq <| W.reg <| WL.p (.as rfl) rfl <| WL.nil <| ?_
  refine W.ret (W.ret1 rfl rfl ?_)
  exact ⟨ret_bool (by rw [hR]; simp_all), rfl⟩
 have h4' := of_decide_eq_false h4
 refine W.seq <| W.reg <| WL.p (.eql rfl rfl) rfl <| WL.p (.as rfl) rfl <| WL.nil <| ?_
 refine W.cond rfl (fun h5 => ?_) (fun h5 => ?_)
 ·
  have h5' := of_decide_eq_true h5
  refine W.skip <| W.condT rfl h5 ?_
  refine W.seq <| W.reg <| WL.p (.as rfl) rfl <| WL.nil <| ?_
  refine W.ret (W.ret1 rfl rfl ?_)
  exact ⟨ret_bool (by rw [hR]; simp_all), rfl⟩
 have h5' := of_decide_eq_false h5
 refine W.seq <| W.reg <| WL.p (.eql rfl rfl) rfl <| WL.p (.as rfl) rfl <| WL.nil <| ?_
 refine W.cond rfl (fun h6 => ?_) (fun h6 => ?_)
 ·
  have h6' := of_decide_eq_true h6
  refine W.skip <| W.condT rfl h6 ?_
  refine W.seq <| W.reg <| WL.p (.as rfl) rfl <| WL.nil <| ?_
  refine W.ret (W.ret1 rfl rfl ?_)
  exact ⟨ret_bool (by rw [hR]; simp_all), rfl⟩
 have h6' := of_decide_eq_false h6
 refine W.seq <| W.reg <| WL.p (.eql rfl rfl) rfl <| WL.p (.as rfl) rfl <| WL.nil <| ?_
 refine W.cond rfl (fun h7 => ?_) (fun h7 => ?_)
 ·
  have h7' := of_decide_eq_true h7
  refine W.skip <| W.condT rfl h7 ?_
  refine W.seq <| W.reg <| WL.p (.as rfl) rfl <| WL.nil <| ?_
  refine W.ret (W.ret1 rfl rfl ?_)
  exact ⟨ret_bool (by rw [hR]; simp_all), rfl⟩
 have h7' := of_decide_eq_false h7
 refine W.seq <| W.reg <| WL.p (.eql rfl rfl) rfl <| WL.p (.as rfl) rfl <| WL.nil <| ?_
 refine W.cond rfl (fun h8 => ?_) (fun h8 => ?_)
 ·
  have h8' := of_decide_eq_true h8
  refine W.skip <| W.condT rfl h8 ?_
  refine W.seq <| W.reg <| WL.p (.as rfl) rfl <| WL.nil <| ?_
  refine W.ret (W.ret1 rfl rfl ?_)
  exact ⟨ret_bool (by rw [hR]; simp_all), rfl⟩
 have h8' := of_decide_eq_false h8
 refine W.seq <| W.reg <| WL.p (.eql rfl rfl) rfl <| WL.p (.as rfl) rfl <| WL.nil <| ?_
 refine W.cond rfl (fun h9 => ?_) (fun h9 => ?_)
 ·
  have h9' := of_decide_eq_true h9
  refine W.skip <| W.condT rfl h9 ?_
  refine W.seq <| W.reg <| WL.p (.as rfl) rfl <| WL.nil <| ?_
  refine W.ret (W.ret1 rfl rfl ?_)
  exact ⟨ret_bool (by rw [hR]; simp_all), rfl⟩
 have h9' := of_decide_eq_false h9
 refine W.reg <| WL.p (.eql rfl rfl) rfl <| WL.p (.as rfl) rfl <| WL.nil <| ?_
 refine W.cond rfl (fun h10 => ?_) (fun h10 => ?_)
 ·
  have h10' := of_decide_eq_true h10
  refine W.seq <| W.reg <| WL.p (.as rfl) rfl <| WL.nil <| ?_
  refine W.ret (W.ret1 rfl rfl ?_)
  exact ⟨ret_bool (by rw [hR]; simp_all), rfl⟩
 have h10' := of_decide_eq_false h10
 refine W.skip <| W.seq <| W.reg <| WL.p (.as rfl) rfl <| WL.nil <| ?_
 refine W.ret (W.ret1 rfl rfl ?_)
 exact ⟨ret_bool (by rw [hR]; simp_all), rfl⟩
theorem ref_Regular (c : UInt8) (w : World) :
  Calls Tryz.prog 33 #[.int .u8 (c.toNat : Int)] w fun e w' => e = .returned (.bool (regB c)) ∧ w = w' := by
 refine W.enter func33 rfl ntmps33 (Nat.le_of_ble_eq_true rfl) ?_
 refine W.seq <| W.reg <| WL.p (.as rfl) rfl <| WL.nil <| ?_
 refine W.seq <| W.reg <| WL.p (.mv rfl) rfl <| WL.c1 hb35 rfl rfl ((ref_Blank c _)) (fun w1 hw1 => ?_)
 obtain rfl := hw1
 refine WL.p (.not rfl) rfl <| WL.p (.mv rfl) rfl <| WL.gd rfl rfl rfl (fun g2 => ?_) (fun g2 => ?_)
 ·
  have g2' := (nT g2)
  refine WL.p (.mv rfl) rfl <| WL.gy rfl rfl rfl (by rw [(nT g2)] <;> rfl) <| WL.c1 hb61 rfl rfl ((ref_Delimiter c _)) (fun w3 hw3 => ?_)
  obtain rfl := hw3
  refine WL.gy rfl rfl rfl (by rw [(nT g2)] <;> rfl) <| WL.p (.not rfl) rfl <| WL.p (.pkT rfl (by rw [(nT g2)] <;> rfl) rfl) rfl <| WL.p (.as rfl) rfl <| WL.nil <| ?_
  refine W.ret (W.ret1 rfl rfl ?_)
  exact ⟨ret_bool (by unfold regB; simp_all), rfl⟩
 have g2' := (nF g2)
 refine WL.gn rfl rfl rfl (by rw [(nF g2)] <;> rfl) <| WL.gn rfl rfl rfl (by rw [(nF g2)] <;> rfl) <| WL.p (.pkF rfl (by rw [(nF g2)] <;> rfl) rfl) rfl <| WL.p (.as rfl) rfl <| WL.nil <| ?_
 refine W.ret (W.ret1 rfl rfl ?_)
 exact ⟨ret_bool (by unfold regB; simp_all), rfl⟩
theorem takeWhile_drop (q : UInt8 → Bool) (l : List UInt8) (t : Nat) (h : t < l.length) : (l.drop t).takeWhile q = if q l[t] then l[t] :: (l.drop (t + 1)).takeWhile q else [] := by
 rw [List.drop_eq_getElem_cons h, List.takeWhile_cons]
/-- the place behind regular bytes -/
def wordAt (l : List UInt8) (t : Nat) : Nat := t + ((l.drop t).takeWhile regB).length
theorem wordAt_le (l : List UInt8) (t : Nat) (h : t ≤ l.length) : t ≤ wordAt l t ∧ wordAt l t ≤ l.length := by
 have h1 := (List.takeWhile_sublist regB (l := l.drop t)).length_le
 rw [List.length_drop] at h1
 unfold wordAt; omega
theorem ref_Word (p : Option Addr) (l : List UInt8) (c a : Nat) (w : World) (hb : BytesAt w p l) (ha : a ≤ l.length) (hl : l.length ≤ 100000000) :
  Calls Tryz.prog 12 #[.slice p l.length c, .int .i64 (a : Int)] w fun e w' => e = .returned (.int .i64 (wordAt l a : Int)) ∧ w = w' := by
 obtain ⟨R, hR⟩ : ∃ R, R = wordAt l a := ⟨_, rfl⟩
 rw [← hR]
 refine W.enter func12 rfl ntmps12 (Nat.le_of_ble_eq_true rfl) ?_
 refine W.seq <| W.reg <| WL.p (.as rfl) rfl <| WL.nil <| ?_
 refine W.seq <| W.block ?_
 refine W.loop (α := Nat) (fun t => [(0, .slice p l.length c), (1, .int .i64 (t : Int))]) (fun t w' => w = w' ∧ t ≤ l.length ∧ wordAt l t = R) (fun t => l.length - t) (a) ⟨rfl, rfl, trivial⟩ (⟨rfl, ha, hR.symm⟩) (fun t w1 hR => ?_)
 obtain ⟨rfl, ht, hw⟩ := hR
 refine W.seq <| W.seq <| W.reg <| WL.p (.mv rfl) rfl <| WL.p (.mv rfl) rfl <| WL.p (.lenS underlying22 rfl) rfl <| WL.p (.lss rfl rfl) rfl <| WL.p (.mv rfl) rfl <| WL.gd rfl rfl rfl (fun g1 => ?_) (fun g1 => ?_)
 ·
  have g1' := of_decide_eq_true g1
  refine WL.p (.mv rfl) rfl <| WL.gy rfl rfl rfl g1 <| WL.p (.mv rfl) rfl <| WL.gy rfl rfl rfl g1 <| WL.p (.ixb underlying22 sizeOf5 rfl rfl (hb.isp (by omega)) _ rfl (by omega)) rfl <| WL.gy rfl rfl rfl g1 <| ?_
  have hs := takeWhile_drop regB l t (by omega)
  refine WL.r (Rd.ldc (isAgg5 _) rfl (hb.cells _ (by omega))) rfl <| WL.gy rfl rfl rfl g1 <| WL.c1 hb33 rfl rfl ((ref_Regular _ _)) (fun w2 hw2 => ?_)
  obtain rfl := hw2
  refine WL.p (.pkT rfl g1 rfl) rfl <| WL.nil <| ?_
  refine W.cond rfl (fun h3 => ?_) (fun h3 => ?_)
  ·
   skip
   refine W.skip <| W.block <| W.reg <| WL.p (.mv rfl) rfl <| WL.p (.add rfl rfl (i64w (by omega))) rfl <| WL.p (.as rfl) rfl <| WL.nil <| ?_
   exact ⟨t + 1, ⟨rfl, lk_i rfl (by omega), trivial⟩, ⟨rfl, by omega, by unfold wordAt at hw ⊢; rw [hs, if_pos (by assumption), List.length_cons] at hw; omega⟩, by omega⟩
  refine W.exit <| W.seq <| W.reg <| WL.p (.mv rfl) rfl <| WL.p (.as rfl) rfl <| WL.nil <| ?_
  refine W.ret (W.ret1 rfl rfl ?_)
  exact ⟨ret_int (by unfold wordAt at hw; rw [hs, if_neg (by simp_all), List.length_nil] at hw; omega), rfl⟩
 have g1' := of_decide_eq_false g1
 refine WL.gn rfl rfl rfl g1 <| WL.gn rfl rfl rfl g1 <| WL.gn rfl rfl rfl g1 <| WL.gn rfl rfl rfl g1 <| WL.p (.pkF rfl g1 rfl) rfl <| WL.nil <| ?_
 refine W.condF rfl rfl ?_
 refine W.exit <| W.seq <| W.reg <| WL.p (.mv rfl) rfl <| WL.p (.as rfl) rfl <| WL.nil <| ?_
 refine W.ret (W.ret1 rfl rfl ?_)
 exact ⟨ret_int (by unfold wordAt at hw; rw [List.drop_eq_nil_of_le (by omega)] at hw; simp at hw; omega), rfl⟩
def skipAt (m : Bool) (l : List UInt8) (t : Nat) : Nat := l.length - (skipS m (l.drop t)).length
theorem skipAt_le (m : Bool) (l : List UInt8) (t : Nat) : skipAt m l t ≤ l.length := Nat.sub_le _ _
theorem skipAt_drop (m : Bool) (l : List UInt8) (t : Nat) : l.drop (skipAt m l t) = skipS m (l.drop t) := by
 obtain ⟨k, h1, h2⟩ := skipS_suffix (l.drop t) m
 unfold skipAt
 rw [h2, List.drop_drop, List.length_drop]
 rw [List.length_drop] at h1
 by_cases h : t + k ≤ l.length
 ·
  congr 1; omega
 ·
  rw [List.drop_eq_nil_of_le (by omega), List.drop_eq_nil_of_le (by omega)]
theorem skipAt_f (l : List UInt8) (t : Nat) (h : t < l.length) : skipAt false l t = if l[t] = 37 then skipAt true l (t + 1) else if blankB l[t] then skipAt false l (t + 1) else t := by
 unfold skipAt
 rw [List.drop_eq_getElem_cons h]
 simp only [skipS]
 split
 ·
  rfl
 ·
  split
  ·
   rfl
  ·
   simp; omega
theorem skipAt_t (l : List UInt8) (t : Nat) (h : t < l.length) : skipAt true l t = if endB l[t] then skipAt false l (t + 1) else skipAt true l (t + 1) := by
 unfold skipAt
 rw [List.drop_eq_getElem_cons h]
 simp only [skipS]
 split <;> rfl
theorem skipAt_end (m : Bool) (l : List UInt8) (t : Nat) (h : l.length ≤ t) : skipAt m l t = l.length := by
 unfold skipAt
 rw [List.drop_eq_nil_of_le h]; cases m <;> simp [skipS]
/-- from a comment's end on as from no comment -/
theorem skipAt_out (l : List UInt8) (t : Nat) (h : t < l.length → endB l[t]! = true) : skipAt true l t = skipAt false l t := by
 by_cases ht : t < l.length
 ·
  have he := h ht
  rw [getElem!_pos l t ht] at he
  rw [skipAt_t l t ht, if_pos he, skipAt_f l t ht, if_pos (endB_blank he), if_neg (by rintro e; rw [e] at he; cases he)]
 ·
  rw [skipAt_end true l t (by omega), skipAt_end false l t (by omega)]
/-- still in a comment -/
def cmtB (l : List UInt8) (t : Nat) : Bool := decide (t < l.length) && !(decide (((l[t]!).toNat : Int) = 10) || decide (((l[t]!).toNat : Int) = 12) || decide (((l[t]!).toNat : Int) = 13))
theorem cmtB_eq (l : List UInt8) (t : Nat) : cmtB l t = (decide (t < l.length) && !endB l[t]!) := by
 unfold cmtB endB
 rw [← u8_dec _ 10, ← u8_dec _ 12, ← u8_dec _ 13]; rfl
theorem cmtB_t {l : List UInt8} {t : Nat} (h : cmtB l t = true) : ∃ ht : t < l.length, endB (l[t]'ht) = false := by
 rw [cmtB_eq] at h
 simp only [Bool.and_eq_true, decide_eq_true_eq, Bool.not_eq_true'] at h
 obtain ⟨h1, h2⟩ := h
 rw [getElem!_pos l t h1] at h2
 exact ⟨h1, h2⟩
theorem cmtB_f {l : List UInt8} {t : Nat} (h : cmtB l t = false) : skipAt true l t = skipAt false l t ∧ (∀ ht : t < l.length, (l[t]'ht) ≠ 37) := by
 rw [cmtB_eq] at h
 have h2 : t < l.length → endB l[t]! = true := fun ht => by simpa [ht] using h
 refine ⟨skipAt_out l t h2, fun ht e => ?_⟩
 have := h2 ht
 rw [getElem!_pos l t ht, e] at this
 cases this
theorem ref_Skip (p : Option Addr) (l : List UInt8) (c a : Nat) (w : World) (hb : BytesAt w p l) (ha : a ≤ l.length) (hl : l.length ≤ 100000000) :
  Calls Tryz.prog 14 #[.slice p l.length c, .int .i64 (a : Int)] w fun e w' => e = .returned (.int .i64 (skipAt false l a : Int)) ∧ w = w' := by
 obtain ⟨R, hR⟩ : ∃ R, R = skipAt false l a := ⟨_, rfl⟩
 rw [← hR]
 refine W.enter func14 rfl ntmps14 (Nat.le_of_ble_eq_true rfl) ?_
 refine W.seq <| W.reg <| WL.p (.as rfl) rfl <| WL.nil <| ?_
 refine W.seq <| W.block ?_
 refine W.loop (α := Nat) (fun t => [(0, .slice p l.length c), (1, .int .i64 (t : Int))]) (fun t w' => w = w' ∧ t ≤ l.length ∧ skipAt false l t = R) (fun t => l.length - t) (a) ⟨rfl, rfl, trivial⟩ (⟨rfl, ha, hR.symm⟩) (fun t w1 hR => ?_)
 obtain ⟨rfl, ht, hw⟩ := hR
 obtain ⟨s, rfl⟩ : ∃ s, s = t := ⟨t, rfl⟩
 refine W.seq <| W.seq <| W.reg <| WL.p (.mv rfl) rfl <| WL.p (.mv rfl) rfl <| WL.p (.lenS underlying22 rfl) rfl <| WL.p (.lss rfl rfl) rfl <| WL.nil <| ?_
 refine W.cond rfl (fun h1 => ?_) (fun h1 => ?_)
 ·
  have h1' := of_decide_eq_true h1
  refine W.skip <| W.block <| W.seq <| W.seq <| W.reg ?_
  have hs := skipAt_f l s (by omega)
  have hs' : l[s]! = l[s]'(by omega) := getElem!_pos l s (by omega)
  refine WL.p (.mv rfl) rfl <| WL.p (.mv rfl) rfl <| WL.p (.ixb underlying22 sizeOf5 rfl rfl (hb.isp (by omega)) _ rfl (by omega)) rfl <| WL.r (Rd.ldc (isAgg5 _) rfl (hb.cells _ (by omega))) rfl <| WL.p (.eql rfl rfl) rfl <| WL.nil <| ?_
  refine W.cond rfl (fun h2 => ?_) (fun h2 => ?_)
  ·
   have h2' := of_decide_eq_true h2
   refine W.seq <| W.block ?_
   refine W.loop (α := Nat) (fun t => [(0, .slice p l.length c), (1, .int .i64 (t : Int))]) (fun t w' => w = w' ∧ s ≤ t ∧ t ≤ l.length ∧ skipAt true l t = R ∧ (t = s → l[s]'(by omega) = 37)) (fun t => l.length - t) (s) ⟨rfl, rfl, trivial⟩ (⟨rfl, by omega, by omega, by rw [skipAt_t l s (by omega), if_neg (by rw [show l[s] = 37 from u8_eq (by assumption)]; decide), ← hw, hs, if_pos (u8_eq (by assumption))], fun _ => u8_eq (by assumption)⟩) (fun t w1 hR => ?_)
   obtain ⟨rfl, hst, ht2, hw2, h37⟩ := hR
   refine W.seq ?_
   refine W.cutB 38 (cmtB l t) ?_ ?_
   ·
    skip
    refine W.reg <| WL.p (.mv rfl) rfl <| WL.p (.mv rfl) rfl <| WL.p (.lenS underlying22 rfl) rfl <| WL.p (.lss rfl rfl) rfl <| WL.p (.mv rfl) rfl <| WL.gd rfl rfl rfl (fun g3 => ?_) (fun g3 => ?_)
    ·
     have g3' := of_decide_eq_true g3
     refine WL.p (.mv rfl) rfl <| WL.gy rfl rfl rfl g3 <| WL.p (.mv rfl) rfl <| WL.gy rfl rfl rfl g3 <| WL.p (.ixb underlying22 sizeOf5 rfl rfl (hb.isp (by omega)) _ rfl (by omega)) rfl <| WL.gy rfl rfl rfl g3 <| WL.r (Rd.ldc (isAgg5 _) rfl (hb.cells _ (by omega))) rfl <| WL.gy rfl rfl rfl g3 <| WL.p (.neq rfl rfl) rfl <| WL.p (.pkT rfl g3 rfl) rfl <| WL.p (.mv rfl) rfl <| WL.gd rfl rfl rfl (fun g4 => ?_) (fun g4 => ?_)
     ·
      have g4' := ndT g4
      refine WL.p (.mv rfl) rfl <| WL.gy rfl rfl rfl g4 <| WL.p (.mv rfl) rfl <| WL.gy rfl rfl rfl g4 <| WL.p (.ixb underlying22 sizeOf5 rfl rfl (hb.isp (by omega)) _ rfl (by omega)) rfl <| WL.gy rfl rfl rfl g4 <| WL.r (Rd.ldc (isAgg5 _) rfl (hb.cells _ (by omega))) rfl <| WL.gy rfl rfl rfl g4 <| WL.p (.neq rfl rfl) rfl <| WL.p (.pkT rfl g4 rfl) rfl <| WL.p (.mv rfl) rfl <| WL.gd rfl rfl rfl (fun g5 => ?_) (fun g5 => ?_)
      ·
       have g5' := ndT g5
       refine WL.p (.mv rfl) rfl <| WL.gy rfl rfl rfl g5 <| WL.p (.mv rfl) rfl <| WL.gy rfl rfl rfl g5 <| WL.p (.ixb underlying22 sizeOf5 rfl rfl (hb.isp (by omega)) _ rfl (by omega)) rfl <| WL.gy rfl rfl rfl g5 <| WL.r (Rd.ldc (isAgg5 _) rfl (hb.cells _ (by omega))) rfl <| WL.gy rfl rfl rfl g5 <| WL.p (.neq rfl rfl) rfl <| WL.p (.pkT rfl g5 rfl) rfl <| WL.nil <| ?_
       exact ⟨⟨lk_b rfl (by (by_cases hq : t < l.length) <;> (unfold cmtB; first | (exfalso; omega) | (rw [getElem!_pos l t hq]; simp_all; done) | (rw [decide_eq_false hq]; simp_all; done))), by repeat (first | exact Le.refl _ | refine Le.cons rfl ?_)⟩, rfl⟩
      have g5' := ndF g5
      refine WL.gn rfl rfl rfl g5 <| WL.gn rfl rfl rfl g5 <| WL.gn rfl rfl rfl g5 <| WL.gn rfl rfl rfl g5 <| WL.p (.pkF rfl g5 rfl) rfl <| WL.nil <| ?_
      exact ⟨⟨lk_b rfl (by (by_cases hq : t < l.length) <;> (unfold cmtB; first | (exfalso; omega) | (rw [getElem!_pos l t hq]; simp_all; done) | (rw [decide_eq_false hq]; simp_all; done))), by repeat (first | exact Le.refl _ | refine Le.cons rfl ?_)⟩, rfl⟩
     have g4' := ndF g4
     refine WL.gn rfl rfl rfl g4 <| WL.gn rfl rfl rfl g4 <| WL.gn rfl rfl rfl g4 <| WL.gn rfl rfl rfl g4 <| WL.p (.pkF rfl g4 rfl) rfl <| WL.p (.mv rfl) rfl <| WL.gn rfl rfl rfl rfl <| WL.gn rfl rfl rfl rfl <| WL.gn rfl rfl rfl rfl <| WL.gn rfl rfl rfl rfl <| WL.gn rfl rfl rfl rfl <| WL.p (.pkF rfl rfl rfl) rfl <| WL.nil <| ?_
     exact ⟨⟨lk_b rfl (by (by_cases hq : t < l.length) <;> (unfold cmtB; first | (exfalso; omega) | (rw [getElem!_pos l t hq]; simp_all; done) | (rw [decide_eq_false hq]; simp_all; done))), by repeat (first | exact Le.refl _ | refine Le.cons rfl ?_)⟩, rfl⟩
    have g3' := of_decide_eq_false g3
    refine WL.gn rfl rfl rfl g3 <| WL.gn rfl rfl rfl g3 <| WL.gn rfl rfl rfl g3 <| WL.gn rfl rfl rfl g3 <| WL.p (.pkF rfl g3 rfl) rfl <| WL.p (.mv rfl) rfl <| WL.gn rfl rfl rfl rfl <| WL.gn rfl rfl rfl rfl <| WL.gn rfl rfl rfl rfl <| WL.gn rfl rfl rfl rfl <| WL.gn rfl rfl rfl rfl <| WL.p (.pkF rfl rfl rfl) rfl <| WL.p (.mv rfl) rfl <| WL.gn rfl rfl rfl rfl <| WL.gn rfl rfl rfl rfl <| WL.gn rfl rfl rfl rfl <| WL.gn rfl rfl rfl rfl <| WL.gn rfl rfl rfl rfl <| WL.p (.pkF rfl rfl rfl) rfl <| WL.nil <| ?_
    exact ⟨⟨lk_b rfl (by (by_cases hq : t < l.length) <;> (unfold cmtB; first | (exfalso; omega) | (rw [getElem!_pos l t hq]; simp_all; done) | (rw [decide_eq_false hq]; simp_all; done))), by repeat (first | exact Le.refl _ | refine Le.cons rfl ?_)⟩, rfl⟩
   refine W.cond rfl (fun h6 => ?_) (fun h6 => ?_)
   ·
    skip
    obtain ⟨hk1, hk2⟩ := cmtB_t (by assumption)
    rw [skipAt_t l t hk1, hk2, if_neg (by simp)] at hw2
    refine W.skip <| W.block <| W.reg <| WL.p (.mv rfl) rfl <| WL.p (.add rfl rfl (i64w (by omega))) rfl <| WL.p (.as rfl) rfl <| WL.nil <| ?_
    exact ⟨t + 1, ⟨rfl, lk_i rfl (by omega), trivial⟩, ⟨rfl, by omega, by omega, by omega, fun h => by omega⟩, by omega⟩
   obtain ⟨hk1, hk2⟩ := cmtB_f (by assumption)
   have hk3 : t ≠ s := fun e => by subst e; exact hk2 (by omega) (h37 rfl)
   refine W.exit <| W.exit ?_
   exact ⟨t, ⟨rfl, lk_i rfl (by omega), trivial⟩, ⟨rfl, by omega, by omega⟩, by omega⟩
  have h2' := of_decide_eq_false h2
  refine W.skip <| W.seq <| W.seq <| W.reg <| WL.p (.mv rfl) rfl <| WL.p (.mv rfl) rfl <| WL.p (.ixb underlying22 sizeOf5 rfl rfl (hb.isp (by omega)) _ rfl (by omega)) rfl <| WL.r (Rd.ldc (isAgg5 _) rfl (hb.cells _ (by omega))) rfl <| WL.c1 hb35 rfl rfl ((ref_Blank _ _)) (fun w7 hw7 => ?_)
  obtain rfl := hw7
  refine WL.p (.not rfl) rfl <| WL.nil <| ?_
  refine W.cond rfl (fun h8 => ?_) (fun h8 => ?_)
  ·
   have h8' := (nT h8)
   refine W.seq <| W.reg <| WL.p (.mv rfl) rfl <| WL.p (.as rfl) rfl <| WL.nil <| ?_
   refine W.ret (W.ret1 rfl rfl ?_)
   exact ⟨ret_int (by rw [← hw, hs, if_neg (u8_ne (by assumption)), if_neg (by simp_all)]), rfl⟩
  have h8' := (nF h8)
  refine W.skip <| W.reg <| WL.p (.mv rfl) rfl <| WL.p (.add rfl rfl (i64w (by omega))) rfl <| WL.p (.as rfl) rfl <| WL.nil <| ?_
  exact ⟨s + 1, ⟨rfl, lk_i rfl (by omega), trivial⟩, ⟨rfl, by omega, by rw [← hw, hs, if_neg (u8_ne (by assumption)), if_pos (by simp_all)]⟩, by omega⟩
 have h1' := of_decide_eq_false h1
 refine W.exit <| W.seq <| W.reg <| WL.p (.mv rfl) rfl <| WL.p (.as rfl) rfl <| WL.nil <| ?_
 refine W.ret (W.ret1 rfl rfl ?_)
 exact ⟨ret_int (by rw [skipAt_end false l s (by omega)] at hw; omega), rfl⟩
end Go.Proofs.YtjghbcjnplcleaaGreatDoor

namespace Go.Proofs.YtjghbcjnplcleaaGreatDoor
open Go.Proofs.Tryz
open Go.RowKit
theorem inf5 : (Tryz.prog.info? 5).map (fun i => (i.zero, i.size, i.bytes)) = some (some (.int .u8 0), 1, 1) := by kernel_rfl
/-- what the reference hands back -/
structure NR where
 k : Int
 n : Int
 s : List UInt8
 at' : Int
 e : Int
abbrev NR.tok (r : NR) : Value := .agg #[.int .i64 r.k, .int .i64 r.n, .string (bs r.s)]
abbrev NR.val (r : NR) : Value := .tuple #[r.tok, .int .i64 r.at', .int .i64 r.e]
def nrOf (l : List UInt8) : TokE → NR
 | .ok (t, r) => ⟨t.kind, t.n, t.text, (l.length - r.length : Nat), 0⟩
 | .error k => ⟨0, 0, [], 0, k⟩
theorem ret_val {a b : Value} (h : a = b) : Ending.returned a = .returned b := by rw [h]
/-- a string in brackets as the reference hands it back -/
def StrOk (w : World) (B : Nat) (l : List UInt8) (o : Option (List UInt8 × List UInt8)) (v : Value) (at' err : Int) : Prop :=
 match o with
 | none => err = 14
 | some (s, r) => err = 0 ∧ Own 5 B w v (byteVals s) ∧ s.length ≤ l.length ∧ ∃ k : Nat, at' = k ∧ k ≤ l.length ∧ r = l.drop k
def hexI (h : Option Nat) : Int := match h with | none => -1 | some x => x
theorem hexS_cons (h : Option Nat) (o : List UInt8) (l : List UInt8) (t : Nat) (ht : t < l.length) : hexS h o (l.drop t) =
  if blankB l[t] then hexS h o (l.drop (t + 1))
  else if l[t] = 62 then some (match h with | none => o | some x => o ++ [ch (x * 16 : Nat)], l.drop (t + 1))
  else if 15 < hexN l[t] then none else match h with
   | none => hexS (some (hexN l[t])) o (l.drop (t + 1))
   | some x => hexS none (o ++ [ch (x * 16 + hexN l[t] : Nat)]) (l.drop (t + 1)) := by
 rw [List.drop_eq_getElem_cons ht]
 simp only [hexS]
 split
 ·
  rfl
 ·
  split
  ·
   cases h <;> rfl
  ·
   unfold hexD
   by_cases h16 : hexN l[t] < 16
   ·
    rw [if_pos h16, if_neg (by omega)]; cases h <;> rfl
   ·
    rw [if_neg h16, if_pos (by omega)]
theorem ch_val (x : Int) (h0 : 0 ≤ x) (h : x < 256) : ((ch x).toNat : Int) = x := by
 unfold ch
 rw [UInt8.toNat_ofNat']; omega
theorem bF {b : Bool} (h : b = false) : ¬ b = true := by rw [h]; simp
end Go.Proofs.YtjghbcjnplcleaaGreatDoor

namespace Go.Proofs.YtjghbcjnplcleaaGreatDoor
open Go.Proofs.Tryz
open Go.RowKit
/-- a line feed stands there -/
def lfB (l : List UInt8) (t : Nat) : Bool := decide (t < l.length) && decide (((l[t]!).toNat : Int) = 10)
theorem lfB_t {l : List UInt8} {t : Nat} (h : lfB l t = true) : t < l.length ∧ dropLF (l.drop t) = l.drop (t + 1) := by
 unfold lfB at h
 simp only [Bool.and_eq_true, decide_eq_true_eq] at h
 obtain ⟨h1, h2⟩ := h
 rw [getElem!_pos l t h1] at h2
 have h3 : l[t] = 10 := u8_eq h2
 refine ⟨h1, ?_⟩
 rw [List.drop_eq_getElem_cons h1]
 simp [dropLF, h3]
theorem lfB_f {l : List UInt8} {t : Nat} (h : lfB l t = false) : dropLF (l.drop t) = l.drop t := by
 by_cases h1 : t < l.length
 ·
  unfold lfB at h
  rw [decide_eq_true h1, Bool.true_and, getElem!_pos l t h1] at h
  have h3 : l[t] ≠ 10 := u8_ne (of_decide_eq_false h)
  rw [List.drop_eq_getElem_cons h1]
  simp [dropLF, h3]
 ·
  rw [List.drop_eq_nil_of_le (by omega)]; rfl
/-- one more octal digit -/
def octT (l : List UInt8) (k t : Nat) : Bool := decide (k < 2) && (decide (t < l.length) && (decide (48 ≤ ((l[t]!).toNat : Int)) && decide (((l[t]!).toNat : Int) ≤ 55)))
theorem octT_t {l : List UInt8} {k t : Nat} (h : octT l k t = true) : k < 2 ∧ ∃ ht : t < l.length, 48 ≤ (l[t]'ht).toNat ∧ (l[t]'ht).toNat ≤ 55 ∧ ∀ n, octS (2 - k) n (l.drop t) = octS (2 - (k + 1)) (8 * n + ((l[t]'ht).toNat - 48)) (l.drop (t + 1)) := by
 unfold octT at h
 simp only [Bool.and_eq_true, decide_eq_true_eq] at h
 obtain ⟨h0, h1, h2, h3⟩ := h
 rw [getElem!_pos l t h1] at h2 h3
 refine ⟨h0, h1, by omega, by omega, fun n => ?_⟩
 rw [List.drop_eq_getElem_cons h1, show 2 - k = (2 - (k + 1)) + 1 by omega]
 have : octB l[t] = true := by simp [octB]; omega
 simp only [octS]
 rw [if_pos this]
theorem octT_f {l : List UInt8} {k t : Nat} (h : octT l k t = false) (n : Nat) : octS (2 - k) n (l.drop t) = (n, l.drop t) := by
  by_cases h0 : k < 2
  · rw [show 2 - k = (2 - (k + 1)) + 1 by omega]
    by_cases h1 : t < l.length
    · rw [List.drop_eq_getElem_cons h1]
      unfold octT at h
      rw [decide_eq_true h0, Bool.true_and, decide_eq_true h1, Bool.true_and, getElem!_pos l t h1] at h
      have : octB l[t] = false := by
        unfold octB
        rw [← h]; congr 1 <;> exact decide_eq_decide.2 (by omega)
      simp only [octS]
      rw [if_neg (by rw [this]; simp)]
    · rw [List.drop_eq_nil_of_le (by omega)]; rfl
  · rw [show 2 - k = 0 by omega]; rfl
theorem roundS_at (d : Nat) (o l : List UInt8) (s : Nat) (h : s < l.length) : roundS d o (l.drop s) =
  if l[s] = 40 then roundS (d + 1) (o ++ [l[s]]) (l.drop (s + 1))
  else if l[s] = 41 then (if d = 1 then some (o, l.drop (s + 1)) else roundS (d - 1) (o ++ [l[s]]) (l.drop (s + 1)))
  else if l[s] = 92 then
   match l.drop (s + 1) with
   | [] => none
   | e :: r' => roundS d (o ++ (escS e r').1) (escS e r').2
  else if l[s] = 13 then roundS d (o ++ [10]) (dropLF (l.drop (s + 1)))
  else roundS d (o ++ [l[s]]) (l.drop (s + 1)) := by
 rw [List.drop_eq_getElem_cons h]
 exact roundS.eq_def d o (l[s] :: l.drop (s + 1))
theorem esc110 (r : List UInt8) : escS 110 r = ([10], r) := rfl
theorem esc114 (r : List UInt8) : escS 114 r = ([13], r) := rfl
theorem esc116 (r : List UInt8) : escS 116 r = ([9], r) := rfl
theorem esc98 (r : List UInt8) : escS 98 r = ([8], r) := rfl
theorem esc102 (r : List UInt8) : escS 102 r = ([12], r) := rfl
theorem esc10 (r : List UInt8) : escS 10 r = ([], r) := rfl
theorem esc13 (r : List UInt8) : escS 13 r = ([], dropLF r) := rfl
theorem esc_oct {y : UInt8} (r : List UInt8) (h1 : 48 ≤ (y.toNat : Int)) (h2 : (y.toNat : Int) ≤ 55) : escS y r = ([ch ((octS 2 (y.toNat - 48) r).1 % 256 : Nat)], (octS 2 (y.toNat - 48) r).2) := by
 have ne : ∀ c : UInt8, (c.toNat < 48 ∨ 55 < c.toNat) → y ≠ c := fun c hc e => by subst e; omega
 unfold escS
 rw [if_neg (ne 110 (by decide)), if_neg (ne 114 (by decide)), if_neg (ne 116 (by decide)), if_neg (ne 98 (by decide)), if_neg (ne 102 (by decide)), if_neg (ne 10 (by decide)), if_neg (ne 13 (by decide)),
  if_pos (by simp only [octB, Bool.and_eq_true, decide_eq_true_eq]; omega)]
theorem esc_else {y : UInt8} (r : List UInt8) (h1 : ¬ (y.toNat : Int) = 110) (h2 : ¬ (y.toNat : Int) = 114) (h3 : ¬ (y.toNat : Int) = 116) (h4 : ¬ (y.toNat : Int) = 98) (h5 : ¬ (y.toNat : Int) = 102) (h6 : ¬ (y.toNat : Int) = 10) (h7 : ¬ (y.toNat : Int) = 13)
  (h8 : ¬ (48 ≤ (y.toNat : Int) ∧ (y.toNat : Int) ≤ 55)) : escS y r = ([y], r) := by
 unfold escS
 rw [if_neg (u8_ne (d := 110) h1), if_neg (u8_ne (d := 114) h2), if_neg (u8_ne (d := 116) h3), if_neg (u8_ne (d := 98) h4), if_neg (u8_ne (d := 102) h5), if_neg (u8_ne (d := 10) h6), if_neg (u8_ne (d := 13) h7),
  if_neg (by simp only [octB, Bool.and_eq_true, decide_eq_true_eq]; omega)]
end Go.Proofs.YtjghbcjnplcleaaGreatDoor

namespace Go.Proofs.YtjghbcjnplcleaaGreatDoor
open Go.Proofs.Tryz
open Go.RowKit
/-- the token from its first byte on -/
def tokC (c : UInt8) (r : List UInt8) : TokE :=
 if c = 40 then textS (roundS 1 [] r)
 else if c = 41 then .error 14
 else if c = 60 ∨ c = 62 then angleS c r
 else if c = 123 then .ok (⟨7, 0, []⟩, r)
 else if c = 125 then .ok (⟨8, 0, []⟩, r)
 else if c = 91 ∨ c = 93 then .ok (⟨3, 0, [c]⟩, r)
 else if c = 47 then slashS r
 else wordS (c :: r)
theorem tokS_end {l : List UInt8} {n s : Nat} (h : l.drop s = skipS false (l.drop n)) (hs : l.length ≤ s) : tokS (l.drop n) = .ok (⟨0, 0, []⟩, []) := by
 unfold tokS
 rw [← h, List.drop_eq_nil_of_le hs]
theorem tokS_at {l : List UInt8} {n s : Nat} (h : l.drop s = skipS false (l.drop n)) (hs : s < l.length) : tokS (l.drop n) = tokC l[s] (l.drop (s + 1)) := by
 unfold tokS
 rw [← h, List.drop_eq_getElem_cons hs]; rfl
theorem angle_eq {l : List UInt8} {s : Nat} {c d : UInt8} (hc : c ≠ 0) (hd : d = (l[s]?).getD 0) : angleS c (l.drop s) = if d = c then .ok (⟨3, 0, [c, c]⟩, l.drop (s + 1)) else if c = 60 then textS (hexS none [] (l.drop s)) else .error 14 := by
  by_cases h : s < l.length
  · rw [List.drop_eq_getElem_cons h]
    rw [List.getElem?_eq_getElem h] at hd
    obtain rfl : d = l[s] := hd
    rfl
  · rw [List.drop_eq_nil_of_le (by omega)]
    rw [List.getElem?_eq_none (by omega)] at hd
    obtain rfl : d = 0 := hd
    rw [if_neg (fun e => hc e.symm)]; rfl
theorem slash_eq {l : List UInt8} {s : Nat} {d : UInt8} (hd : d = (l[s]?).getD 0) : slashS (l.drop s) = if d = 47 then nameS 5 (l.drop (s + 1)) else nameS 4 (l.drop s) := by
  by_cases h : s < l.length
  · rw [List.drop_eq_getElem_cons h]
    rw [List.getElem?_eq_getElem h] at hd
    obtain rfl : d = l[s] := hd
    rfl
  · rw [List.drop_eq_nil_of_le (by omega)]
    rw [List.getElem?_eq_none (by omega)] at hd
    obtain rfl : d = 0 := hd
    rw [if_neg (by decide)]; rfl
theorem tokC_word {c : UInt8} (r : List UInt8) (h1 : ¬ (c.toNat : Int) = 40) (h2 : ¬ (c.toNat : Int) = 41) (h3 : ¬ (c.toNat : Int) = 60) (h4 : ¬ (c.toNat : Int) = 62) (h5 : ¬ (c.toNat : Int) = 123) (h6 : ¬ (c.toNat : Int) = 125) (h7 : ¬ (c.toNat : Int) = 91)
  (h8 : ¬ (c.toNat : Int) = 93) (h9 : ¬ (c.toNat : Int) = 47) : tokC c r = wordS (c :: r) := by
 unfold tokC
 rw [if_neg (u8_ne (d := 40) h1), if_neg (u8_ne (d := 41) h2), if_neg (not_or.2 ⟨u8_ne (d := 60) h3, u8_ne (d := 62) h4⟩), if_neg (u8_ne (d := 123) h5), if_neg (u8_ne (d := 125) h6), if_neg (not_or.2 ⟨u8_ne (d := 91) h7, u8_ne (d := 93) h8⟩), if_neg (u8_ne (d := 47) h9)]
theorem word_take (l : List UInt8) (s : Nat) : (l.drop s).take (wordAt l s - s) = (l.drop s).takeWhile regB := by
 unfold wordAt
 rw [Nat.add_sub_cancel_left]
 conv => lhs; arg 2; rw [← List.takeWhile_append_dropWhile (p := regB) (l := l.drop s)]
 rw [List.take_left']; rfl
theorem word_drop (l : List UInt8) (s : Nat) : (l.drop s).dropWhile regB = l.drop (wordAt l s) := by
 unfold wordAt
 rw [← List.drop_drop]
 conv => rhs; arg 2; rw [← List.takeWhile_append_dropWhile (p := regB) (l := l.drop s)]
 rw [List.drop_left']; rfl
theorem nrOf_drop (l : List UInt8) (t : TokV) (k : Nat) (hk : k ≤ l.length) : nrOf l (.ok (t, l.drop k)) = ⟨t.kind, t.n, t.text, k, 0⟩ := by
 simp only [nrOf, List.length_drop]
 rw [show l.length - (l.length - k) = k by omega]
theorem StrOk.cases {w : World} {B : Nat} {l : List UInt8} {o : Option (List UInt8 × List UInt8)} {v : Value} {at' err : Int} (h : StrOk w B l o v at' err) :
  (o = none ∧ err = 14) ∨ ∃ (s : List UInt8) (k : Nat) (q : Option Addr) (cq : Nat), o = some (s, l.drop k) ∧ err = 0 ∧ at' = k ∧ k ≤ l.length ∧ s.length ≤ l.length ∧ v = .slice q s.length cq ∧ BytesAt w q s := by
 unfold StrOk at h
 split at h
 ·
  exact Or.inl ⟨rfl, h⟩
 ·
  next s r =>
  obtain ⟨he, ho, hl, k, hk, hkl, rfl⟩ := h
  obtain ⟨q, cq, hv, hb, -⟩ := ho.bytes
  exact Or.inr ⟨s, k, q, cq, rfl, he, hk, hkl, hl, hv, hb⟩
theorem tokC40 (r : List UInt8) : tokC 40 r = textS (roundS 1 [] r) := rfl
theorem tokC41 (r : List UInt8) : tokC 41 r = .error 14 := rfl
theorem tokC60 (r : List UInt8) : tokC 60 r = angleS 60 r := rfl
theorem tokC62 (r : List UInt8) : tokC 62 r = angleS 62 r := rfl
theorem tokC123 (r : List UInt8) : tokC 123 r = .ok (⟨7, 0, []⟩, r) := rfl
theorem tokC125 (r : List UInt8) : tokC 125 r = .ok (⟨8, 0, []⟩, r) := rfl
theorem tokC91 (r : List UInt8) : tokC 91 r = .ok (⟨3, 0, [91]⟩, r) := rfl
theorem tokC93 (r : List UInt8) : tokC 93 r = .ok (⟨3, 0, [93]⟩, r) := rfl
theorem tokC47 (r : List UInt8) : tokC 47 r = slashS r := rfl
/-- the reference's next token from place a on -/
def nextR (l : List UInt8) (a : Int) : NR := if a < 0 ∨ (l.length : Int) < a then ⟨0, 0, [], 0, 21⟩ else nrOf l (tokS (l.drop a.toNat))
end Go.Proofs.YtjghbcjnplcleaaGreatDoor

namespace Go.Proofs.YtjghbcjnplcleaaGreatDoor
open Go.Proofs.Tryz
theorem roundS_len : ∀ (n : Nat) (d : Nat) (o l : List UInt8) (s r : List UInt8), l.length ≤ n → roundS d o l = some (s, r) → r.length ≤ l.length
 | n, d, o, [], s, r, _, h => by rw [roundS.eq_def] at h; cases h
 | 0, d, o, c :: t, s, r, hn, h => by simp at hn
 | n + 1, d, o, c :: t, s, r, hn, h => by
  simp only [List.length_cons] at hn ⊢
  rw [roundS.eq_def] at h
  simp only at h
  split at h
  ·
   have := roundS_len n _ _ t s r (by omega) h; omega
  ·
   split at h
   ·
    split at h
    ·
     simp only [Option.some.injEq, Prod.mk.injEq] at h; rw [h.2]; omega
    ·
     have := roundS_len n _ _ t s r (by omega) h; omega
   ·
    split at h
    ·
     split at h
     ·
      cases h
     ·
      next e r' =>
      have h2 := escS_len e r'
      simp only [List.length_cons] at hn
      have := roundS_len n _ _ _ s r (by omega) h
      simp only [List.length_cons]; omega
    ·
     split at h
     ·
      have h2 := dropLF_len t
      have := roundS_len n _ _ _ s r (by omega) h; omega
     ·
      have := roundS_len n _ _ t s r (by omega) h; omega
theorem hexS_len : ∀ (l : List UInt8) (h : Option Nat) (o : List UInt8) (s r : List UInt8), hexS h o l = some (s, r) → r.length ≤ l.length
 | [], h, o, s, r, e => by simp [hexS] at e
 | c :: t, h, o, s, r, e => by
  simp only [List.length_cons]
  unfold hexS at e
  split at e
  ·
   have := hexS_len t _ _ s r e; omega
  ·
   split at e
   ·
    simp only [Option.some.injEq, Prod.mk.injEq] at e; rw [← e.2]; omega
   ·
    split at e
    ·
     cases e
    ·
     split at e
     ·
      have := hexS_len t _ _ s r e; omega
     ·
      have := hexS_len t _ _ s r e; omega
theorem textS_ok2 {o : Option (List UInt8 × List UInt8)} {t : TokV} {r : List UInt8} (h : textS o = .ok (t, r)) : ∃ s, o = some (s, r) ∧ t = ⟨6, 0, s⟩ ∧ s.length ≤ 65535 := by
 unfold textS at h
 split at h
 ·
  cases h
 ·
  next s r' =>
  split at h
  ·
   cases h
  ·
   simp only [Except.ok.injEq, Prod.mk.injEq] at h
   obtain ⟨rfl, rfl⟩ := h
   exact ⟨s, rfl, rfl, by omega⟩
theorem nameS_ok2 {k : Int} {l : List UInt8} {t : TokV} {r : List UInt8} (h : nameS k l = .ok (t, r)) : r = l.dropWhile regB ∧ t = ⟨k, 0, l.takeWhile regB⟩ ∧ (l.takeWhile regB).length ≤ 127 := by
 unfold nameS at h
 split at h
 ·
  cases h
 ·
  simp only [Except.ok.injEq, Prod.mk.injEq] at h
  exact ⟨h.2.symm, h.1.symm, by omega⟩
theorem dropWhile_len (l : List UInt8) : (l.dropWhile regB).length ≤ l.length := (List.dropWhile_sublist regB).length_le
theorem radixRes_kind (o : Option (Nat × Bool)) : (radixRes o).ok = true → (radixRes o).e = 0 → (radixRes o).kind = 1 ∨ (radixRes o).kind = 2 := by
 unfold radixRes
 split
 ·
  simp [tokNone]
 ·
  split <;> simp [tokGreat, tokInt]
theorem radixL_kind (l : List UInt8) : (radixL l).ok = true → (radixL l).e = 0 → (radixL l).kind = 1 ∨ (radixL l).kind = 2 := by
 unfold radixL
 split
 ·
  unfold radixV
  repeat' split
  all_goals first | exact radixRes_kind _ | simp [tokNone]
 ·
  simp [tokNone]
theorem tokenL_kind (l : List UInt8) (h : (tokenL l).ok = true) (he : (tokenL l).e = 0) : (tokenL l).kind = 1 ∨ (tokenL l).kind = 2 := by
 have hf : ∀ a b c, (finL a b c).ok = true → (finL a b c).e = 0 → (finL a b c).kind = 1 ∨ (finL a b c).kind = 2 := by
  intro a b c; unfold finL; repeat' split
  all_goals simp [tokNone, tokGreat, tokInt, tokReal]
 revert h he
 unfold tokenL
 split
 ·
  simp [tokNone]
 ·
  split
  ·
   exact radixL_kind l
  ·
   split
   ·
    simp [tokInt]
   ·
    unfold realL2
    split
    ·
     split
     ·
      exact hf _ _ _
     ·
      simp [tokNone]
    ·
     exact hf _ _ _
theorem reg_of_tokC {c : UInt8} (h1 : blankB c = false) (h2 : c ≠ 37) (h40 : c ≠ 40) (h41 : c ≠ 41) (h60 : ¬ (c = 60 ∨ c = 62)) (h123 : c ≠ 123) (h125 : c ≠ 125) (h91 : ¬ (c = 91 ∨ c = 93)) (h47 : c ≠ 47) : regB c = true := by
 unfold regB delimB
 rw [h1]
 simp only [not_or] at h60 h91
 simp [h2, h40, h41, h60.1, h60.2, h123, h125, h91.1, h91.2, h47]
/-- a token takes no more than there is, and it has a kind -/
theorem tokC_len {c : UInt8} {r : List UInt8} (h1 : blankB c = false) (h2 : c ≠ 37) {t : TokV} {s : List UInt8} (h : tokC c r = .ok (t, s)) : s.length ≤ r.length ∧ t.kind ≠ 0 := by
  unfold tokC at h
  split at h
  · obtain ⟨s', ho, rfl, -⟩ := textS_ok2 h
    exact ⟨roundS_len _ _ _ _ _ _ (Nat.le_refl _) ho, by simp⟩
  · split at h
    · cases h
    · split at h
      · unfold angleS at h
        split at h
        · split at h
          · simp only [Except.ok.injEq, Prod.mk.injEq] at h
            obtain ⟨rfl, rfl⟩ := h
            exact ⟨by simp, by simp⟩
          · split at h
            · obtain ⟨s', ho, rfl, -⟩ := textS_ok2 h
              exact ⟨hexS_len _ _ _ _ _ ho, by simp⟩
            · cases h
        · split at h
          · obtain ⟨s', ho, rfl, -⟩ := textS_ok2 h
            exact ⟨hexS_len _ _ _ _ _ ho, by simp⟩
          · cases h
      · split at h
        · simp only [Except.ok.injEq, Prod.mk.injEq] at h
          obtain ⟨rfl, rfl⟩ := h
          exact ⟨Nat.le_refl _, by simp⟩
        · split at h
          · simp only [Except.ok.injEq, Prod.mk.injEq] at h
            obtain ⟨rfl, rfl⟩ := h
            exact ⟨Nat.le_refl _, by simp⟩
          · split at h
            · simp only [Except.ok.injEq, Prod.mk.injEq] at h
              obtain ⟨rfl, rfl⟩ := h
              exact ⟨Nat.le_refl _, by simp⟩
            · split at h
              · unfold slashS at h
                split at h
                · split at h
                  · next d r' _ =>
                    obtain ⟨rfl, rfl, -⟩ := nameS_ok2 h
                    have := dropWhile_len r'
                    exact ⟨by simp only [List.length_cons]; omega, by simp⟩
                  · obtain ⟨rfl, rfl, -⟩ := nameS_ok2 h
                    exact ⟨dropWhile_len _, by simp⟩
                · obtain ⟨rfl, rfl, -⟩ := nameS_ok2 h
                  exact ⟨dropWhile_len _, by simp⟩
              · have hreg := reg_of_tokC h1 h2 (by assumption) (by assumption) (by assumption) (by assumption) (by assumption) (by assumption) (by assumption)
                have hdw : (c :: r).dropWhile regB = r.dropWhile regB := by simp [List.dropWhile_cons, hreg]
                have hdl := dropWhile_len r
                unfold wordS at h
                simp only at h
                split at h
                · cases h
                · next he =>
                  split at h
                  · next hk =>
                    simp only [Except.ok.injEq, Prod.mk.injEq] at h
                    obtain ⟨rfl, rfl⟩ := h
                    rw [hdw]
                    refine ⟨hdl, ?_⟩
                    have := tokenL_kind _ hk (by simpa using he)
                    intro h0
                    simp only at h0
                    omega
                  · obtain ⟨rfl, rfl, -⟩ := nameS_ok2 h
                    rw [hdw]
                    exact ⟨hdl, by simp⟩
theorem skipS_head : ∀ (l : List UInt8) (m : Bool) {c : UInt8} {r : List UInt8}, skipS m l = c :: r → blankB c = false ∧ c ≠ 37
 | [], m, c, r, h => by cases m <;> simp [skipS] at h
 | x :: t, false, c, r, h => by
  unfold skipS at h
  split at h
  ·
   exact skipS_head t true h
  ·
   split at h
   ·
    exact skipS_head t false h
   ·
    simp only [List.cons.injEq] at h
    obtain ⟨rfl, rfl⟩ := h
    exact ⟨by simp_all, by assumption⟩
 | x :: t, true, c, r, h => by
  unfold skipS at h
  split at h
  ·
   exact skipS_head t false h
  ·
   exact skipS_head t true h
/-- a step goes on: no kind at the end alone, else a byte at least is taken -/
theorem tokS_step {l : List UInt8} {t : TokV} {s : List UInt8} (h : tokS l = .ok (t, s)) : (t.kind = 0 ∧ s = []) ∨ (t.kind ≠ 0 ∧ s.length < l.length) := by
 unfold tokS at h
 split at h
 ·
  simp only [Except.ok.injEq, Prod.mk.injEq] at h
  obtain ⟨rfl, rfl⟩ := h
  exact Or.inl ⟨rfl, rfl⟩
 ·
  next c r hs =>
  have hh := skipS_head l false hs
  obtain ⟨h1, h2⟩ := tokC_len (t := t) (s := s) hh.1 hh.2 h
  have h3 := skipS_len l false
  rw [hs] at h3
  simp only [List.length_cons] at h3
  exact Or.inr ⟨h2, by omega⟩
theorem textS_err0 {o : Option (List UInt8 × List UInt8)} {k : Int} (h : textS o = .error k) : k = 14 ∨ k = 9 := by
 unfold textS at h
 split at h
 ·
  cases h; exact Or.inl rfl
 ·
  split at h
  ·
   cases h; exact Or.inr rfl
  ·
   cases h
theorem nameS_err0 {i : Int} {l : List UInt8} {k : Int} (h : nameS i l = .error k) : k = 9 := by
 unfold nameS at h
 split at h
 ·
  cases h; rfl
 ·
  cases h
theorem tokC_err0 {c : UInt8} {r : List UInt8} {k : Int} (h : tokC c r = .error k) : k ≠ 0 := by
 have ht : ∀ {o : Option (List UInt8 × List UInt8)}, textS o = .error k → k ≠ 0 := fun h => by rcases textS_err0 h with rfl | rfl <;> decide
 have hn : ∀ {i : Int} {l : List UInt8}, nameS i l = .error k → k ≠ 0 := fun h => by rw [nameS_err0 h]; decide
 unfold tokC at h
 split at h
 ·
  exact ht h
 ·
  split at h
  ·
   cases h; decide
  ·
   split at h
   ·
    unfold angleS at h
    split at h
    ·
     split at h
     ·
      cases h
     ·
      split at h
      ·
       exact ht h
      ·
       cases h; decide
    ·
     split at h
     ·
      exact ht h
     ·
      cases h; decide
   ·
    split at h
    ·
     cases h
    ·
     split at h
     ·
      cases h
     ·
      split at h
      ·
       cases h
      ·
       split at h
       ·
        unfold slashS at h
        split at h
        ·
         split at h
         ·
          exact hn h
         ·
          exact hn h
        ·
         exact hn h
       ·
        unfold wordS at h
        simp only at h
        split at h
        ·
         next he => cases h; exact he
        ·
         split at h
         ·
          cases h
         ·
          exact hn h
theorem tokS_err0 {l : List UInt8} (h : tokS l = .error 0) : False := by
 unfold tokS at h
 split at h
 ·
  cases h
 ·
  exact tokC_err0 (k := 0) h rfl
theorem nextR_step (l : List UInt8) (a : Nat) (ha : a ≤ l.length) : (nextR l a).e ≠ 0 ∨ ((nextR l a).k = 0 ∧ (nextR l a).at' = l.length) ∨ ((nextR l a).k ≠ 0 ∧ (a : Int) < (nextR l a).at' ∧ (nextR l a).at' ≤ l.length) := by
 have e : nextR l a = nrOf l (tokS (l.drop a)) := by unfold nextR; rw [if_neg (by omega)]; rfl
 rw [e]
 cases h : tokS (l.drop a) with
 | error k =>
  by_cases hk : k = 0
  ·
   exfalso; subst hk; exact tokS_err0 h
  ·
   exact Or.inl hk
 | ok p =>
  obtain ⟨t, s⟩ := p
  right
  simp only [nrOf]
  rcases tokS_step h with ⟨h1, rfl⟩ | ⟨h1, h2⟩
  ·
   exact Or.inl ⟨h1, by simp⟩
  ·
   rw [List.length_drop] at h2
   exact Or.inr ⟨h1, by omega, by omega⟩
end Go.Proofs.YtjghbcjnplcleaaGreatDoor

namespace Go.Proofs.YtjghbcjnplcleaaGreatDoor
open Go.Proofs.Tryz
theorem roundS_41 (d : Nat) (o r : List UInt8) : roundS d o (41 :: r) = if d = 1 then some (o, r) else roundS (d - 1) (o ++ [41]) r := by rw [roundS.eq_def]; rfl
theorem roundS_92 (d : Nat) (o r : List UInt8) (e : UInt8) : roundS d o (92 :: e :: r) = roundS d (o ++ (escS e r).1) (escS e r).2 := by rw [roundS.eq_def]; rfl
theorem roundS_plain (d : Nat) (o r : List UInt8) (c : UInt8) (h1 : c ≠ 40) (h2 : c ≠ 41) (h3 : c ≠ 92) (h4 : c ≠ 13) : roundS d o (c :: r) = roundS d (o ++ [c]) r := by
 rw [roundS.eq_def]; simp only; rw [if_neg h1, if_neg h2, if_neg h3, if_neg h4]
theorem tokS_40 (r : List UInt8) : tokS (40 :: r) = textS (roundS 1 [] r) := rfl
/-- a byte, by its number in octal digits -/
def octE (c : UInt8) : List UInt8 := [92, ch (48 + (c.toNat : Int) / 64), ch (48 + (c.toNat : Int) / 8 % 8), ch (48 + (c.toNat : Int) % 8)]
theorem esc_octE : ∀ (c : UInt8) (r : List UInt8), escS (ch (48 + (c.toNat : Int) / 64)) (ch (48 + (c.toNat : Int) / 8 % 8) :: ch (48 + (c.toNat : Int) % 8) :: r) = ([c], r) := by
 intro c r
 have hc : c.toNat < 256 := UInt8.toNat_lt c
 have v1 : ((ch (48 + (c.toNat : Int) / 64)).toNat : Int) = 48 + (c.toNat : Int) / 64 := ch_val _ (by omega) (by omega)
 have v2 : ((ch (48 + (c.toNat : Int) / 8 % 8)).toNat : Int) = 48 + (c.toNat : Int) / 8 % 8 := ch_val _ (by omega) (by omega)
 have v3 : ((ch (48 + (c.toNat : Int) % 8)).toNat : Int) = 48 + (c.toNat : Int) % 8 := ch_val _ (by omega) (by omega)
 rw [esc_oct _ (by omega) (by omega)]
 have o2 : octB (ch (48 + (c.toNat : Int) / 8 % 8)) = true := by simp only [octB, Bool.and_eq_true, decide_eq_true_eq]; omega
 have o3 : octB (ch (48 + (c.toNat : Int) % 8)) = true := by simp only [octB, Bool.and_eq_true, decide_eq_true_eq]; omega
 simp only [octS, o2, o3, if_true]
 have e : ((8 * (8 * ((ch (48 + (c.toNat : Int) / 64)).toNat - 48) + ((ch (48 + (c.toNat : Int) / 8 % 8)).toNat - 48)) + ((ch (48 + (c.toNat : Int) % 8)).toNat - 48)) % 256 : Nat) = c.toNat := by omega
 rw [e]
 simp only [Prod.mk.injEq, and_true, List.cons.injEq]
 exact UInt8.toNat_inj.1 (by have := ch_val (c.toNat : Int) (by omega) (by omega); omega)
/-- hexadecimal digits -/
def hexDigits : List UInt8 := [48, 49, 50, 51, 52, 53, 54, 55, 56, 57, 97, 98, 99, 100, 101, 102, 65, 66, 67, 68, 69, 70]
end Go.Proofs.YtjghbcjnplcleaaGreatDoor

namespace Go.Proofs.YtjghbcjnplcleaaGreatDoor
open Go.Proofs.Tryz
open Go.RowKit
theorem idx_blank : ∀ c : UInt8, decide (0 ≤ Lib.indexByte [0, 9, 10, 12, 13, 32] c) = blankB c := by
 intro c
 have key : ∀ n : Fin 256, decide (0 ≤ Lib.indexByte [0, 9, 10, 12, 13, 32] (UInt8.ofNat n.1)) = blankB (UInt8.ofNat n.1) := by decide +kernel
 have := key ⟨c.toNat, UInt8.toNat_lt c⟩
 simpa using this
theorem idx_delim : ∀ c : UInt8, decide (Lib.indexByte [40, 41, 60, 62, 91, 93, 123, 125, 47, 37] c < 0) = !delimB c := by
 intro c
 have key : ∀ n : Fin 256, decide (Lib.indexByte [40, 41, 60, 62, 91, 93, 123, 125, 47, 37] (UInt8.ofNat n.1) < 0) = !delimB (UInt8.ofNat n.1) := by decide +kernel
 have := key ⟨c.toNat, UInt8.toNat_lt c⟩
 simpa using this
theorem idx_end : ∀ c : UInt8, decide (Lib.indexByte [10, 12, 13] c < 0) = !endB c := by
 intro c
 have key : ∀ n : Fin 256, decide (Lib.indexByte [10, 12, 13] (UInt8.ofNat n.1) < 0) = !endB (UInt8.ofNat n.1) := by decide +kernel
 have := key ⟨c.toNat, UInt8.toNat_lt c⟩
 simpa using this
theorem lib_ib (l : List UInt8) (c : UInt8) (w : World) : Calls Tryz.prog 60 #[.string (bs l), .int .u8 (c.toNat : Int)] w fun e w' => e = .returned (.int .i64 (Lib.indexByte l c)) ∧ w = w' := by
 refine (Tryz.strings_IndexByte (bs l) (c.toNat : Int) w).mono fun e w' h => ⟨?_, h.2.symm⟩
 rw [h.1]
 have : (bs l).data.toList = l := by simp [bs]
 rw [this]
 have : ((c.toNat : Int).toNat).toUInt8 = c := by rw [Int.toNat_natCast]; exact UInt8.ofNat_toNat
 rw [this]
theorem scan_blank (c : UInt8) (w : World) :
  Calls Tryz.prog 234 #[.int .u8 (c.toNat : Int)] w fun e w' => e = .returned (.bool (blankB c)) ∧ w = w' := by
 refine W.enter func234 rfl ntmps234 (Nat.le_of_ble_eq_true rfl) ?_
 refine W.seq <| W.reg <| WL.p (.as rfl) rfl <| WL.nil <| ?_
 refine W.seq <| W.reg <| WL.p (.mv rfl) rfl <| WL.c1 hb60 rfl rfl ((lib_ib [0, 9, 10, 12, 13, 32] c _)) (fun w1 hw1 => ?_)
 obtain rfl := hw1
 refine WL.p (.bis (blankB c) (.geq rfl rfl) (by exact idx_blank c)) rfl <| WL.p (.as rfl) rfl <| WL.nil <| ?_
 refine W.ret (W.ret1 rfl rfl ?_)
 exact ⟨rfl, rfl⟩
theorem scan_regular (c : UInt8) (w : World) :
  Calls Tryz.prog 240 #[.int .u8 (c.toNat : Int)] w fun e w' => e = .returned (.bool (regB c)) ∧ w = w' := by
 refine W.enter func240 rfl ntmps240 (Nat.le_of_ble_eq_true rfl) ?_
 refine W.seq <| W.reg <| WL.p (.as rfl) rfl <| WL.nil <| ?_
 refine W.seq <| W.reg <| WL.p (.mv rfl) rfl <| WL.c1 hb234 rfl rfl ((scan_blank c _)) (fun w1 hw1 => ?_)
 obtain rfl := hw1
 refine WL.p (.not rfl) rfl <| WL.p (.mv rfl) rfl <| WL.gd rfl rfl rfl (fun g2 => ?_) (fun g2 => ?_)
 ·
  have g2' := (nT g2)
  refine WL.p (.mv rfl) rfl <| WL.gy rfl rfl rfl (by rw [(nT g2)] <;> rfl) <| WL.c1 hb60 rfl rfl ((lib_ib [40, 41, 60, 62, 91, 93, 123, 125, 47, 37] c _)) (fun w3 hw3 => ?_)
  obtain rfl := hw3
  refine WL.gy rfl rfl rfl (by rw [(nT g2)] <;> rfl) <| WL.p (.bis (!delimB c) (.lss rfl rfl) (by exact idx_delim c)) rfl <| WL.p (.pkT rfl (by rw [(nT g2)] <;> rfl) rfl) rfl <| WL.p (.as rfl) rfl <| WL.nil <| ?_
  refine W.ret (W.ret1 rfl rfl ?_)
  exact ⟨ret_bool (by unfold regB; simp_all), rfl⟩
 have g2' := (nF g2)
 refine WL.gn rfl rfl rfl (by rw [(nF g2)] <;> rfl) <| WL.gn rfl rfl rfl (by rw [(nF g2)] <;> rfl) <| WL.p (.pkF rfl (by rw [(nF g2)] <;> rfl) rfl) rfl <| WL.p (.as rfl) rfl <| WL.nil <| ?_
 refine W.ret (W.ret1 rfl rfl ?_)
 exact ⟨ret_bool (by unfold regB; simp_all), rfl⟩
/-- a reader in memory: block r, the bytes l, at place t -/
def RdOk (w : World) (r : Nat) (p : Option Addr) (l : List UInt8) (c t : Nat) : Prop := Blk w r #[.slice p l.length c, .int .i64 (t : Int)] 185 ∧ BytesAt w p l
theorem scan_more (r : Nat) (p : Option Addr) (l : List UInt8) (c t : Nat) (w : World) (h : RdOk w r p l c t) :
  Calls Tryz.prog 202 #[.pointer (some ⟨r, 0, none⟩)] w fun e w' => e = .returned (.bool (decide (t < l.length))) ∧ Drew w w' := by
 have hr := h.1
 refine W.enter func202 rfl ntmps202 (Nat.le_of_ble_eq_true rfl) ?_
 refine W.seq <| W.reg <| WL.p (.as rfl) rfl <| WL.nil <| ?_
 refine W.seq <| W.regQ mixed (by kernel_rfl) ?_
 refine WQ.p (.mv rfl) rfl <| WQ.p (.nck rfl) rfl <| WQ.p (.fa underlying185 rfl sizeOf3 (by decide) rfl) rfl <| WQ.r (fun m => Rd.ld (isAgg3 _) rfl hr rfl) rfl <| WQ.p (.mv rfl) rfl <| WQ.p (.nck rfl) rfl <| WQ.p (.fa underlying185 rfl sizeOf22 (by decide) rfl) rfl <| WQ.r (fun m => Rd.ld (isAgg22 _) rfl hr rfl) rfl <| WQ.p (.lenS underlying22 rfl) rfl <| WQ.p (.lss rfl rfl) rfl <| WQ.p (.as rfl) rfl <| WQ.nil (fun w1 dw1 => ?_)
 refine W.ret (W.ret1 rfl rfl ?_)
 exact ⟨ret_bool (by (apply Bool.eq_iff_iff.2; (try simp only [Bool.and_eq_true, Bool.or_eq_true, Bool.not_eq_true', decide_eq_true_eq, decide_eq_false_iff_not, Bool.false_eq_true, Bool.not_eq_false', false_iff, iff_false, true_iff, iff_true]); omega)), by assumption⟩
theorem more_q (r : Nat) (p : Option Addr) (l : List UInt8) (c t : Nat) (w : World) (h : RdOk w r p l c t) (m : Nat) :
  Calls Tryz.prog 202 #[.pointer (some ⟨r, 0, none⟩)] (w.drewN m) fun e w' => e = .returned (.bool (decide (t < l.length))) ∧ ∃ k, w' = w.drewN k :=
 (scan_more r p l c t (w.drewN m) ⟨h.1, h.2.drewN m⟩).mono fun e w' h => ⟨h.1, Drew.trans ⟨m, rfl⟩ h.2⟩
/-- the byte there -/
def takeS (l : List UInt8) (t : Nat) : Except Int UInt8 := match l[t]? with | some x => .ok x | none => .error 14
theorem scan_take (r : Nat) (p : Option Addr) (l : List UInt8) (c t : Nat) (w : World) (h : RdOk w r p l c t) (hne : 0 < l.length → (pA p).block ≠ r) (hl : l.length ≤ 100000000) :
  Calls Tryz.prog 235 #[.pointer (some ⟨r, 0, none⟩)] w (Ends 35 (takeS l t) (fun x => .int .u8 (x.toNat : Int)) (fun _ w' => RdOk w' r p l c (t + 1) ∧ Touch w.heap.size r w w') (fun w' => Touch w.heap.size r w w')) := by
 have hr := h.1
 have hb := h.2
 refine W.enter func235 rfl ntmps235 (Nat.le_of_ble_eq_true rfl) ?_
 have hB0 := Touch.refl (w.heap.size) r w
 refine W.seq <| W.reg <| WL.p (.as rfl) rfl <| WL.nil <| ?_
 refine W.seq <| W.seq <| W.reg <| WL.p (.mv rfl) rfl <| WL.c1 hb202 rfl rfl ((scan_more r p l c t _ ⟨hr, hb⟩)) (fun w1 hw1 => ?_)
 have hk2 := hr.drew hw1
 have hv3 := hb.drew hw1
 have hB4 := Touch.trans hB0 (Touch.of_drew hw1)
 refine WL.p (.not rfl) rfl <| WL.nil <| ?_
 refine W.cond rfl (fun h5 => ?_) (fun h5 => ?_)
 ·
  have h5' := (nT h5)
  refine W.reg <| WL.p (.mkI underlying35 rfl) rfl <| WL.panic rfl (pn_is ?_)
  exact Ends.err 14 (by unfold takeS; rw [List.getElem?_eq_none (by simp_all)]) hB4
 have h5' := (nF h5)
 have hlt : t < l.length := by simp_all
 refine W.skip <| W.seq <| W.reg <| WL.p (.mv rfl) rfl <| WL.p (.nck rfl) rfl <| WL.p (.fa underlying185 rfl sizeOf3 (by decide) rfl) rfl <| WL.r (Rd.ld (isAgg3 _) rfl hk2 rfl) rfl <| WL.p (.iis (((t + 1 : Nat) : Int)) (.add rfl rfl (i64w (by omega))) (by omega)) rfl <| WL.p (.nck rfl) rfl <| WL.p (.fa underlying185 rfl sizeOf3 (by decide) rfl) rfl <| WL.st sizeOf3 rfl rfl rfl hk2 (by first | decide | exact Nat.le_of_ble_eq_true rfl) (fun w6 hkw6 huw6 hsw6 => ?_)
 have hkw6 : Blk w6 r _ _ := hkw6
 have huw6 : Upd r _ _ := huw6
 have hv7 := BytesAt.upd hv3 huw6 hne
 have hB8 := Touch.trans hB4 (Touch.of_upd huw6)
 refine WL.nil <| ?_
 refine W.seq <| W.regQ mixed (by kernel_rfl) ?_
 refine WQ.p (.mv rfl) rfl <| WQ.p (.nck rfl) rfl <| WQ.p (.fa underlying185 rfl sizeOf22 (by decide) rfl) rfl <| WQ.r (fun m => Rd.ld (isAgg22 _) rfl hkw6 rfl) rfl <| WQ.p (.mv rfl) rfl <| WQ.p (.nck rfl) rfl <| WQ.p (.fa underlying185 rfl sizeOf3 (by decide) rfl) rfl <| WQ.r (fun m => Rd.ld (isAgg3 _) rfl hkw6 rfl) rfl <| WQ.p (.iis ((t : Int)) (.sub rfl rfl (i64w (by omega))) (by omega)) rfl <| WQ.p (.ixb underlying22 sizeOf5 rfl rfl (hv7.isp (by omega)) (t) (by omega) (by omega)) rfl <| WQ.r (fun m => Rd.ldc (isAgg5 _) rfl ((hv7.drewN m).cells (t) (by omega))) rfl <| WQ.p (.as rfl) rfl <| WQ.nil (fun w9 dw9 => ?_)
 have hk10 := hkw6.drew dw9
 have hv11 := hv7.drew dw9
 have hB12 := Touch.trans hB8 (Touch.of_drew dw9)
 refine W.ret (W.ret1 rfl rfl ?_)
 exact Ends.ok (l[t]'hlt) (by unfold takeS; rw [List.getElem?_eq_getElem hlt]) rfl ⟨⟨hk10, hv11⟩, hB12⟩
/-- this byte stands there -/
def nextB (l : List UInt8) (t : Nat) (x : UInt8) : Bool := decide (t < l.length) && decide (((l[t]!).toNat : Int) = (x.toNat : Int))
theorem nextB_t {l : List UInt8} {t : Nat} {x : UInt8} (h : nextB l t x = true) : ∃ ht : t < l.length, l[t]'ht = x := by
 unfold nextB at h
 simp only [Bool.and_eq_true, decide_eq_true_eq] at h
 obtain ⟨h1, h2⟩ := h
 rw [getElem!_pos l t h1] at h2
 exact ⟨h1, u8_eq h2⟩
theorem nextB_f {l : List UInt8} {t : Nat} {x : UInt8} (h : nextB l t x = false) (ht : t < l.length) : l[t] ≠ x := by
 unfold nextB at h
 rw [decide_eq_true ht, Bool.true_and, getElem!_pos l t ht] at h
 exact u8_ne (of_decide_eq_false h)
theorem scan_next (r : Nat) (p : Option Addr) (l : List UInt8) (c t : Nat) (x : UInt8) (w : World) (h : RdOk w r p l c t) (hne : 0 < l.length → (pA p).block ≠ r) (hl : l.length ≤ 100000000) (ht : t ≤ l.length) :
  Calls Tryz.prog 237 #[.pointer (some ⟨r, 0, none⟩), .int .u8 (x.toNat : Int)] w fun e w' => e = .returned (.bool (nextB l t x)) ∧ RdOk w' r p l c (if nextB l t x then t + 1 else t) ∧ Touch w.heap.size r w w' := by
 have hr := h.1
 have hb := h.2
 refine W.enter func237 rfl ntmps237 (Nat.le_of_ble_eq_true rfl) ?_
 have hB0 := Touch.refl (w.heap.size) r w
 refine W.seq <| W.reg <| WL.p (.as rfl) rfl <| WL.nil <| ?_
 refine W.seq ?_
 refine W.cutBQ 20 (nextB l t x) ?_ (fun w1 dw1 => ?_)
 ·
  skip
  refine W.regQ mixed (by kernel_rfl) ?_
  refine WQ.p (.mv rfl) rfl <| WQ.c1 hb202 rfl rfl (fun m => (more_q r p l c t _ ⟨hr, hb⟩ m)) <| WQ.p (.mv rfl) rfl <| WQ.gd rfl rfl rfl (fun g2 => ?_) (fun g2 => ?_)
  ·
   have g2' := of_decide_eq_true g2
   refine WQ.p (.mv rfl) rfl <| WQ.gy rfl rfl rfl g2 <| WQ.p (.nck rfl) rfl <| WQ.gy rfl rfl rfl g2 <| WQ.p (.fa underlying185 rfl sizeOf22 (by decide) rfl) rfl <| WQ.gy rfl rfl rfl g2 <| WQ.r (fun m => Rd.ld (isAgg22 _) rfl hr rfl) rfl <| WQ.gy rfl rfl rfl g2 <| WQ.p (.mv rfl) rfl <| WQ.gy rfl rfl rfl g2 <| WQ.p (.nck rfl) rfl <| WQ.gy rfl rfl rfl g2 <| WQ.p (.fa underlying185 rfl sizeOf3 (by decide) rfl) rfl <| WQ.gy rfl rfl rfl g2 <| WQ.r (fun m => Rd.ld (isAgg3 _) rfl hr rfl) rfl <| WQ.gy rfl rfl rfl g2 <| WQ.p (.ixb underlying22 sizeOf5 rfl rfl (hb.isp (by omega)) (t) (by omega) (by omega)) rfl <| WQ.gy rfl rfl rfl g2 <| WQ.r (fun m => Rd.ldc (isAgg5 _) rfl ((hb.drewN m).cells (t) (by omega))) rfl <| WQ.gy rfl rfl rfl g2 <| WQ.p (.mv rfl) rfl <| WQ.gy rfl rfl rfl g2 <| WQ.p (.eql rfl rfl) rfl <| WQ.p (.pkT rfl g2 rfl) rfl <| WQ.nil (fun w3 dw3 => ?_)
   exact ⟨⟨lk_b rfl (by (by_cases hq : t < l.length) <;> (unfold nextB; first | (exfalso; simp_all; done) | (rw [getElem!_pos l t hq]; simp_all; done) | (rw [decide_eq_false hq]; simp_all; done))), by repeat (first | exact Le.refl _ | refine Le.cons rfl ?_)⟩, dw3⟩
  have g2' := of_decide_eq_false g2
  refine WQ.gn rfl rfl rfl g2 <| WQ.gn rfl rfl rfl g2 <| WQ.gn rfl rfl rfl g2 <| WQ.gn rfl rfl rfl g2 <| WQ.gn rfl rfl rfl g2 <| WQ.gn rfl rfl rfl g2 <| WQ.gn rfl rfl rfl g2 <| WQ.gn rfl rfl rfl g2 <| WQ.gn rfl rfl rfl g2 <| WQ.gn rfl rfl rfl g2 <| WQ.gn rfl rfl rfl g2 <| WQ.p (.pkF rfl g2 rfl) rfl <| WQ.nil (fun w7 dw7 => ?_)
  exact ⟨⟨lk_b rfl (by (by_cases hq : t < l.length) <;> (unfold nextB; first | (exfalso; simp_all; done) | (rw [getElem!_pos l t hq]; simp_all; done) | (rw [decide_eq_false hq]; simp_all; done))), by repeat (first | exact Le.refl _ | refine Le.cons rfl ?_)⟩, dw7⟩
 have hk11 := hr.drew dw1
 have hv12 := hb.drew dw1
 have hB13 := Touch.trans hB0 (Touch.of_drew dw1)
 refine W.cond rfl (fun h14 => ?_) (fun h14 => ?_)
 ·
  skip
  refine W.seq <| W.reg <| WL.p (.mv rfl) rfl <| WL.p (.nck rfl) rfl <| WL.p (.fa underlying185 rfl sizeOf3 (by decide) rfl) rfl <| WL.r (Rd.ld (isAgg3 _) rfl hk11 rfl) rfl <| WL.p (.iis (((t + 1 : Nat) : Int)) (.add rfl rfl (i64w (by omega))) (by omega)) rfl <| WL.p (.nck rfl) rfl <| WL.p (.fa underlying185 rfl sizeOf3 (by decide) rfl) rfl <| WL.st sizeOf3 rfl rfl rfl hk11 (by first | decide | exact Nat.le_of_ble_eq_true rfl) (fun w15 hkw15 huw15 hsw15 => ?_)
  have hkw15 : Blk w15 r _ _ := hkw15
  have huw15 : Upd r _ _ := huw15
  have hv16 := BytesAt.upd hv12 huw15 hne
  have hB17 := Touch.trans hB13 (Touch.of_upd huw15)
  refine WL.nil <| ?_
  refine W.seq <| W.reg <| WL.p (.as rfl) rfl <| WL.nil <| ?_
  refine W.ret (W.ret1 rfl rfl ?_)
  exact ⟨ret_bool (by simp_all), by rw [if_pos (by assumption)]; exact ⟨hkw15, hv16⟩, hB17⟩
 refine W.skip <| W.seq <| W.reg <| WL.p (.as rfl) rfl <| WL.nil <| ?_
 refine W.ret (W.ret1 rfl rfl ?_)
 exact ⟨ret_bool (by simp_all), by rw [if_neg (bF (by assumption))]; exact ⟨hk11, hv12⟩, hB13⟩
theorem ib_q (l : List UInt8) (c : UInt8) (w : World) (m : Nat) : Calls Tryz.prog 60 #[.string (bs l), .int .u8 (c.toNat : Int)] (w.drewN m) fun e w' => e = .returned (.int .i64 (Lib.indexByte l c)) ∧ ∃ k, w' = w.drewN k :=
 (lib_ib l c (w.drewN m)).mono fun e w' h => ⟨h.1, m, h.2.symm⟩
theorem scan_skip (r : Nat) (p : Option Addr) (l : List UInt8) (c a : Nat) (w : World) (h : RdOk w r p l c a) (hne : 0 < l.length → (pA p).block ≠ r) (hl : l.length ≤ 100000000) (ha : a ≤ l.length) :
  Calls Tryz.prog 201 #[.pointer (some ⟨r, 0, none⟩)] w fun e w' => e = .returned (.tuple #[]) ∧ RdOk w' r p l c (skipAt false l a) ∧ Touch w.heap.size r w w' := by
 have hr := h.1
 have hb := h.2
 obtain ⟨R, hR⟩ : ∃ R, R = skipAt false l a := ⟨_, rfl⟩
 rw [← hR]
 refine W.enter func201 rfl ntmps201 (Nat.le_of_ble_eq_true rfl) ?_
 refine W.block ?_
 refine W.loop (α := Nat) (fun t => [(0, .pointer (some ⟨r, 0, none⟩))]) (fun t w' => RdOk w' r p l c t ∧ Touch w.heap.size r w w' ∧ t ≤ l.length ∧ skipAt false l t = R) (fun t => l.length - t) (a) ⟨rfl, trivial⟩ (⟨h, Touch.refl _ _ _, ha, hR.symm⟩) (fun t w1 hR => ?_)
 obtain ⟨hrd, hT, ht, hw⟩ := hR
 obtain ⟨s, rfl⟩ : ∃ s, s = t := ⟨t, rfl⟩
 refine W.seq <| W.seq <| W.reg <| WL.p (.mv rfl) rfl <| WL.c1 hb202 rfl rfl ((scan_more r p l c s _ ⟨hrd.1, hrd.2⟩)) (fun w1 hw1 => ?_)
 have hk2 := hrd.1.drew hw1
 have hv3 := hrd.2.drew hw1
 have hB4 := Touch.trans hT (Touch.of_drew hw1)
 refine WL.nil <| ?_
 refine W.cond rfl (fun h5 => ?_) (fun h5 => ?_)
 ·
  have h5' := of_decide_eq_true h5
  have hs := skipAt_f l s (by omega)
  refine W.skip <| W.block <| W.seq <| W.regQ mixed (by kernel_rfl) ?_
  refine WQ.p (.mv rfl) rfl <| WQ.p (.nck rfl) rfl <| WQ.p (.fa underlying185 rfl sizeOf22 (by decide) rfl) rfl <| WQ.r (fun m => Rd.ld (isAgg22 _) rfl hk2 rfl) rfl <| WQ.p (.mv rfl) rfl <| WQ.p (.nck rfl) rfl <| WQ.p (.fa underlying185 rfl sizeOf3 (by decide) rfl) rfl <| WQ.r (fun m => Rd.ld (isAgg3 _) rfl hk2 rfl) rfl <| WQ.p (.ixb underlying22 sizeOf5 rfl rfl (hv3.isp (by omega)) (s) (by omega) (by omega)) rfl <| WQ.r (fun m => Rd.ldc (isAgg5 _) rfl ((hv3.drewN m).cells (s) (by omega))) rfl <| WQ.p (.as rfl) rfl <| WQ.nil (fun w6 dw6 => ?_)
  have hk7 := hk2.drew dw6
  have hv8 := hv3.drew dw6
  have hB9 := Touch.trans hB4 (Touch.of_drew dw6)
  refine W.block <| W.seq <| W.reg <| WL.p (.mv rfl) rfl <| WL.c1 hb234 rfl rfl ((scan_blank _ _)) (fun w10 hw10 => ?_)
  obtain rfl := hw10
  refine WL.p (.as rfl) rfl <| WL.nil <| ?_
  refine W.cond rfl (fun h11 => ?_) (fun h11 => ?_)
  ·
   skip
   refine W.reg <| WL.p (.mv rfl) rfl <| WL.p (.nck rfl) rfl <| WL.p (.fa underlying185 rfl sizeOf3 (by decide) rfl) rfl <| WL.r (Rd.ld (isAgg3 _) rfl hk7 rfl) rfl <| WL.p (.iis (((s + 1 : Nat) : Int)) (.add rfl rfl (i64w (by omega))) (by omega)) rfl <| WL.p (.nck rfl) rfl <| WL.p (.fa underlying185 rfl sizeOf3 (by decide) rfl) rfl <| WL.st sizeOf3 rfl rfl rfl hk7 (by first | decide | exact Nat.le_of_ble_eq_true rfl) (fun w12 hkw12 huw12 hsw12 => ?_)
   have hkw12 : Blk w12 r _ _ := hkw12
   have huw12 : Upd r _ _ := huw12
   have hv13 := BytesAt.upd hv8 huw12 hne
   have hB14 := Touch.trans hB9 (Touch.of_upd huw12)
   refine WL.nil <| ?_
   exact ⟨s + 1, ⟨rfl, trivial⟩, ⟨⟨hkw12, hv13⟩, hB14, by omega, by rw [← hw, hs, if_neg (fun e => absurd (show blankB (l[s]'(by omega)) = true by assumption) (by rw [e]; decide)), if_pos (by assumption)]⟩, by omega⟩
  refine W.seq <| W.reg <| WL.p (.mv rfl) rfl <| WL.p (.eql rfl rfl) rfl <| WL.p (.as rfl) rfl <| WL.nil <| ?_
  refine W.cond rfl (fun h15 => ?_) (fun h15 => ?_)
  ·
   have h15' := of_decide_eq_true h15
   refine W.block ?_
   refine W.loop (α := Nat) (fun t => [(0, .pointer (some ⟨r, 0, none⟩))]) (fun t w' => RdOk w' r p l c t ∧ Touch w.heap.size r w w' ∧ s ≤ t ∧ t ≤ l.length ∧ skipAt true l t = R ∧ (t = s → l[s]'(by omega) = 37)) (fun t => l.length - t) (s) ⟨rfl, trivial⟩ (⟨⟨hk7, hv8⟩, hB9, by omega, by omega, by rw [skipAt_t l s (by omega), if_neg (by rw [show l[s] = 37 from u8_eq (by assumption)]; decide), ← hw, hs, if_pos (u8_eq (by assumption))], fun _ => u8_eq (by assumption)⟩) (fun t w1 hR => ?_)
   obtain ⟨hrd2, hT2, hst, ht2, hw2, h37⟩ := hR
   refine W.seq ?_
   refine W.cutBQ 43 (cmtB l t) ?_ (fun w16 dw16 => ?_)
   ·
    skip
    refine W.regQ mixed (by kernel_rfl) ?_
    refine WQ.p (.mv rfl) rfl <| WQ.c1 hb202 rfl rfl (fun m => (more_q r p l c t _ ⟨hrd2.1, hrd2.2⟩ m)) <| WQ.p (.mv rfl) rfl <| WQ.gd rfl rfl rfl (fun g17 => ?_) (fun g17 => ?_)
    ·
     have g17' := of_decide_eq_true g17
     refine WQ.p (.mv rfl) rfl <| WQ.gy rfl rfl rfl g17 <| WQ.p (.nck rfl) rfl <| WQ.gy rfl rfl rfl g17 <| WQ.p (.fa underlying185 rfl sizeOf22 (by decide) rfl) rfl <| WQ.gy rfl rfl rfl g17 <| WQ.r (fun m => Rd.ld (isAgg22 _) rfl hrd2.1 rfl) rfl <| WQ.gy rfl rfl rfl g17 <| WQ.p (.mv rfl) rfl <| WQ.gy rfl rfl rfl g17 <| WQ.p (.nck rfl) rfl <| WQ.gy rfl rfl rfl g17 <| WQ.p (.fa underlying185 rfl sizeOf3 (by decide) rfl) rfl <| WQ.gy rfl rfl rfl g17 <| WQ.r (fun m => Rd.ld (isAgg3 _) rfl hrd2.1 rfl) rfl <| WQ.gy rfl rfl rfl g17 <| WQ.p (.ixb underlying22 sizeOf5 rfl rfl (hrd2.2.isp (by omega)) (t) (by omega) (by omega)) rfl <| WQ.gy rfl rfl rfl g17 <| WQ.r (fun m => Rd.ldc (isAgg5 _) rfl ((hrd2.2.drewN m).cells (t) (by omega))) rfl <| WQ.gy rfl rfl rfl g17 <| WQ.c1 hb60 rfl rfl (fun m => (ib_q [10, 12, 13] _ _ m)) <| WQ.gy rfl rfl rfl g17 <| WQ.p (.bis (!endB (l[t]'(by omega))) (.lss rfl rfl) (by exact idx_end _)) rfl <| WQ.p (.pkT rfl g17 rfl) rfl <| WQ.nil (fun w18 dw18 => ?_)
     exact ⟨⟨lk_b rfl (by rw [cmtB_eq]; (by_cases hq : t < l.length) <;> (first | (exfalso; omega) | (rw [getElem!_pos l t hq, decide_eq_true hq]; rfl) | (rw [decide_eq_false hq]; simp_all; done))), by repeat (first | exact Le.refl _ | refine Le.cons rfl ?_)⟩, dw18⟩
    have g17' := of_decide_eq_false g17
    refine WQ.gn rfl rfl rfl g17 <| WQ.gn rfl rfl rfl g17 <| WQ.gn rfl rfl rfl g17 <| WQ.gn rfl rfl rfl g17 <| WQ.gn rfl rfl rfl g17 <| WQ.gn rfl rfl rfl g17 <| WQ.gn rfl rfl rfl g17 <| WQ.gn rfl rfl rfl g17 <| WQ.gn rfl rfl rfl g17 <| WQ.gn rfl rfl rfl g17 <| WQ.gn rfl rfl rfl g17 <| WQ.p (.pkF rfl g17 rfl) rfl <| WQ.nil (fun w22 dw22 => ?_)
    exact ⟨⟨lk_b rfl (by rw [cmtB_eq]; (by_cases hq : t < l.length) <;> (first | (exfalso; omega) | (rw [getElem!_pos l t hq, decide_eq_true hq]; rfl) | (rw [decide_eq_false hq]; simp_all; done))), by repeat (first | exact Le.refl _ | refine Le.cons rfl ?_)⟩, dw22⟩
   have hk26 := hrd2.1.drew dw16
   have hv27 := hrd2.2.drew dw16
   have hB28 := Touch.trans hT2 (Touch.of_drew dw16)
   refine W.cond rfl (fun h29 => ?_) (fun h29 => ?_)
   ·
    skip
    obtain ⟨hc1, hc2⟩ := cmtB_t (by assumption)
    rw [skipAt_t l t hc1, hc2, if_neg (by simp)] at hw2
    refine W.skip <| W.block <| W.reg <| WL.p (.mv rfl) rfl <| WL.p (.nck rfl) rfl <| WL.p (.fa underlying185 rfl sizeOf3 (by decide) rfl) rfl <| WL.r (Rd.ld (isAgg3 _) rfl hk26 rfl) rfl <| WL.p (.iis (((t + 1 : Nat) : Int)) (.add rfl rfl (i64w (by omega))) (by omega)) rfl <| WL.p (.nck rfl) rfl <| WL.p (.fa underlying185 rfl sizeOf3 (by decide) rfl) rfl <| WL.st sizeOf3 rfl rfl rfl hk26 (by first | decide | exact Nat.le_of_ble_eq_true rfl) (fun w30 hkw30 huw30 hsw30 => ?_)
    have hkw30 : Blk w30 r _ _ := hkw30
    have huw30 : Upd r _ _ := huw30
    have hv31 := BytesAt.upd hv27 huw30 hne
    have hB32 := Touch.trans hB28 (Touch.of_upd huw30)
    refine WL.nil <| ?_
    exact ⟨t + 1, ⟨rfl, trivial⟩, ⟨⟨hkw30, hv31⟩, hB32, by omega, by omega, by omega, fun h => by omega⟩, by omega⟩
   obtain ⟨hc1, hc2⟩ := cmtB_f (by assumption)
   have hc3 : t ≠ s := fun e => by subst e; exact hc2 (by omega) (h37 rfl)
   refine W.exit ?_
   exact ⟨t, ⟨rfl, trivial⟩, ⟨⟨hk26, hv27⟩, hB28, by omega, by omega⟩, by omega⟩
  have h15' := of_decide_eq_false h15
  refine W.ret (W.ret0 rfl  ?_)
  exact ⟨rfl, ⟨by rw [← hw, hs, if_neg (u8_ne (by assumption)), if_neg (bF (by assumption))]; exact hk7, hv8⟩, hB9⟩
 have h5' := of_decide_eq_false h5
 refine W.exit ?_
 refine W.norm (W.ret0 rfl ?_)
 exact ⟨rfl, ⟨by rw [show R = s by rw [← hw, skipAt_end false l s (by omega)]; omega]; exact hk2, hv3⟩, hB4⟩
end Go.Proofs.YtjghbcjnplcleaaGreatDoor

namespace Go.Proofs.YtjghbcjnplcleaaGreatDoor
open Go.Proofs.Tryz
open Go.RowKit Go.WideShapes Go.ChangeShapes
section
variable {P : Program} {n : Sh} {f : Fr}
/-- an empty slice -/
theorem WL.bsl0 {ops : Array Oper} {Q : Exit → Fr → World → Prop} {w : World} {rest : List Oper} {d ty : Nat} {pos : String} {aft : Array Edge} {t e : TypeId} {sz : Nat}
  (hu : P.underlying t = some (.slice e)) (hs : ∀ w, (sizeOf e).run P w = .ok sz w) (hd : Nat.blt d n.n = true)
  (k : ∀ b w1, b = w.heap.size → (∀ B, B ≤ b → w1.ownsRow B e sz (.slice (some ⟨b, 0, none⟩) 0 0) 0 []) → Upd b w w1 → w1.heap.size = b + 1 → WL P n ops Q rest ((d, .slice (some ⟨b, 0, none⟩) 0 0) :: f) w1) :
  WL P n ops Q (⟨some d, .buildSlice t 0 [].toArray, ty, pos, aft, none⟩ :: rest) f w := by
 refine WL.run hd (w' := w.alloc (.cells #[] e)) (v := .slice (some ⟨w.heap.size, 0, none⟩) 0 0) (fun ρ hρ => ?_)
  (k _ _ rfl (fun B hB => ⟨by simp, .inr ⟨w.heap.size, 0, #[], rfl, hB, Blk.alloc _ _ _, Nat.le_refl _, by unfold maxLen; omega, by simp, by simp⟩⟩) (Upd.alloc _ _) (by simp))
 unfold execOp
 have h0 : Array.map (fun _ => (default : Value)) (Array.range 0) = #[] := by simp
 simp [Instr.buildSlice, run_underlying hu, hs, Instr.fill, h0, newRow]
/-- bytes put behind a row of the call's own -/
theorem WL.appB {ops : Array Oper} {Q : Exit → Fr → World → Prop} {w : World} {rest : List Oper} {d ty : Nat} {pos : String} {aft : Array Edge} {s x : Operand} {t e : TypeId} {B : Nat} {z v : Value} {xs : List Value} {p : Option Addr} {l : List UInt8} {c by' : Nat}
    (ht : P.underlying t = some (.slice e)) (hi : (P.info? e).map (fun i => (i.zero, i.size, i.bytes)) = some (some z, 1, by')) (hby2 : Nat.ble by' 16 = true) (hzs : z.cells.size = 1)
    (hs : evo f s = some v) (hown : Own e B w v xs) (hx : evo f x = some (.slice p l.length c)) (hb : BytesAt w p l)
    (hn : xs.length + l.length ≤ 1000000000) (hB : B ≤ w.heap.size) (hd : Nat.blt d n.n = true) (hc : l = [] → c = 0 ∨ p ≠ none)
    (k : ∀ v' w', Own e B w' v' (xs ++ byteVals l) → Below B w w' → w.grownBy w' v.ownBlock → WL P n ops Q rest ((d, v') :: f) w') :
    WL P n ops Q (⟨some d, .call ⟨.builtin .append, #[s, x], #[t, t]⟩, ty, pos, aft, none⟩ :: rest) f w := by
  cases hh : P.info? e with
  | none => rw [hh] at hi; cases hi
  | some i =>
    rw [hh] at hi
    simp only [Option.map_some, Option.some.injEq, Prod.mk.injEq] at hi
    obtain ⟨hz, hsize, hby⟩ := hi
    have hby2' : by' ≤ 16 := by simpa using hby2
    cases hp : p with
    | none =>
      have hl : l = [] := by
        cases l with
        | nil => rfl
        | cons a r => have := hb.isp (by simp); rw [hp] at this; cases this
      have hc0 : c = 0 := (hc hl).resolve_right (fun h => h hp)
      subst hp; subst hl; subst hc0
      have h2 := run_append_owned_none (P := P) (w := w) B t ty e i 1 ht hh v xs.length xs hown
      refine WL.run hd (w' := w) (v := v) (fun ρ hρ => ?_) (k v w (by simpa [byteVals] using hown) (Below.refl _ _) ⟨rfl, rfl, rfl, Nat.le_refl _, fun _ _ _ => rfl⟩)
      unfold execOp
      simp only [resolve, invoke, builtin, Sem.run_bind, Sem.run_pure, Result.andThen_ok, List.map_toArray, List.map_cons, List.map_nil, hρ _ _ hs, hρ _ _ hx, List.length_nil, h2]
    | some a =>
      subst hp
      obtain ⟨v', w', h2, h3, h4, -⟩ := run_append_own (P := P) (w := w) B t ty e i z 1 by' ht hh hz hsize hby hzs (by decide) v xs.length xs hown a l.length c (byteVals l) (by simp [byteVals])
        (fun j y hj => by
          have hj' : j < l.length := by
            rcases Nat.lt_or_ge j l.length with h | h
            · exact h
            · rw [List.getElem?_eq_none (by rw [byteVals_len]; omega)] at hj; cases hj
          have := hb.cells j hj'
          rw [show pA (some a) = a from rfl] at this
          rw [this]
          rw [← hj]; simp [byteVals, hj'])
        (fun u hu => by simp only [byteVals, List.mem_map] at hu; obtain ⟨y, -, rfl⟩ := hu; rfl) (by unfold maxLen; omega) (by
          have : (xs.length + l.length) * by' ≤ (xs.length + l.length) * 16 := Nat.mul_le_mul_left _ hby2'
          omega) hB
      refine WL.run hd (w' := w') (v := v') (fun ρ hρ => ?_) (k v' w' ?_ ((Below.refl _ _).grown h4 hB fun k hk => (hown.lt k hk).1) h4)
      · unfold execOp
        simp only [resolve, invoke, builtin, Sem.run_bind, Sem.run_pure, Result.andThen_ok, List.map_toArray, List.map_cons, List.map_nil, hρ _ _ hs, hρ _ _ hx, h2]
      · have e1 : (xs ++ byteVals l).length = xs.length + l.length := by simp [byteVals]
        unfold Own
        rw [e1]; exact h3
/-- an own row of bytes reads as bytes; its room -/
theorem Own.bytesC {e : TypeId} {B : Nat} {w : World} {v : Value} {l : List UInt8} (h : Own e B w v (byteVals l)) : ∃ p c, v = .slice p l.length c ∧ BytesAt w p l ∧ (0 < l.length → B ≤ (pA p).block) ∧ l.length ≤ c ∧ (l = [] → c = 0 ∨ p ≠ none) := by
 obtain ⟨p, c, hv, hb, hB⟩ := h.bytes
 have hbl : (byteVals l).length = l.length := by simp [byteVals]
 obtain ⟨hl, h⟩ := h
 rcases h with ⟨rfl, h0⟩ | ⟨g, cap, cur, rfl, -, -, hnc, -⟩
 ·
  simp only [Value.slice.injEq] at hv
  obtain ⟨rfl, h1, rfl⟩ := hv
  exact ⟨none, 0, by rw [← h1], hb, hB, by omega, fun _ => .inl rfl⟩
 ·
  simp only [Value.slice.injEq] at hv
  obtain ⟨rfl, h1, rfl⟩ := hv
  exact ⟨_, _, by rw [h1], hb, hB, by omega, fun _ => .inr (by simp)⟩
end
theorem Drew.le {w w1 : World} {B : Nat} (h : B ≤ w.heap.size) (d : Drew w w1) : B ≤ w1.heap.size := by rw [d.size]; exact h
/-- a block of bytes, written out -/
theorem BytesAt.lit {w : World} {b : Nat} {cs : Array Value} {t : TypeId} {l : List UInt8} (h : Blk w b cs t) (e : cs = (byteVals l).toArray) : BytesAt w (some ⟨b, 0, none⟩) l := by
 subst e
 refine ⟨fun _ => rfl, fun j hj => ?_⟩
 have e1 : (pA (some ⟨b, 0, none⟩)).add j = ⟨b, j, none⟩ := by
  show (⟨b, 0, none⟩ : Addr).add j = _
  unfold Addr.add; split
  ·
   next h => subst h; rfl
  ·
   simp
 rw [e1, h.cell j]
 simp [byteVals, hj]
/-- bytes written out, as a conversion of a constant lays them -/
theorem WL.cvB {P : Program} {n : Sh} {f : Fr} {ops : Array Oper} {Q : Exit → Fr → World → Prop} {w : World} {rest : List Oper} {d ty : Nat} {pos : String} {aft : Array Edge} {x : Operand} {t e tb : TypeId} {b len cap : Nat} {cs : Array Value} (l : List UInt8)
  (ht : P.underlying t = some (.slice e)) (he : P.underlying e = some (.int .u8)) (hx : evo f x = some (.slice (some ⟨b, 0, none⟩) len cap)) (hb : Blk w b cs tb) (hl : cs = (byteVals l).toArray) (hd : Nat.blt d n.n = true)
  (k : ∀ w1, BytesAt w1 (some ⟨b, 0, none⟩) l → Upd b w w1 → w1.heap.size = w.heap.size → WL P n ops Q rest ((d, .slice (some ⟨b, 0, none⟩) len cap) :: f) w1) :
  WL P n ops Q (⟨some d, .convert t t x, ty, pos, aft, none⟩ :: rest) f w := by
 have hsh : w.shape? b = some (tb, cs.size) := by unfold World.shape?; rw [show w.heap[b]? = _ from hb]
 have hlt := hb.lt
 have hheap : (w.freeze ⟨b, cs.size, none⟩ 1).heap = w.heap.modify b fun
   | .cells c elem (lo, hi) => .cells c elem (if lo == hi then (cs.size, cs.size + 1) else (min lo cs.size, max hi (cs.size + 1)))
   | o => o := rfl
 have hat : (w.freeze ⟨b, cs.size, none⟩ 1).heap[b]? = some (.cells cs tb (cs.size, cs.size + 1)) := by
  rw [hheap, Array.getElem?_modify, if_pos rfl, show w.heap[b]? = _ from hb]; rfl
 have hu : Upd b w (w.freeze ⟨b, cs.size, none⟩ 1) := ⟨rfl, rfl, rfl, by rw [hheap]; simp, fun k hk => by rw [hheap, Array.getElem?_modify, if_neg (Ne.symm hk)]⟩
 refine WL.run hd (w' := w.freeze ⟨b, cs.size, none⟩ 1) (v := .slice (some ⟨b, 0, none⟩) len cap) (fun ρ hρ => ?_) (k _ ?_ hu (by rw [hheap]; simp))
 ·
  unfold execOp
  simp [hρ _ _ hx, convert, run_underlying ht, run_underlying he, markStringish, hsh]
 ·
  subst hl
  refine ⟨fun _ => rfl, fun j hj => ?_⟩
  have e1 : (pA (some ⟨b, 0, none⟩)).add j = ⟨b, j, none⟩ := by
   show (⟨b, 0, none⟩ : Addr).add j = _
   unfold Addr.add; split
   ·
    next h => subst h; rfl
   ·
    simp
  rw [e1, Lib.cell_of_heap hat j]
  simp [byteVals, hj]
/-- bytes that came in -/
theorem open_bytes {H : Type} {enc : TypeId × Value → H} {P : Program} {w : World} {base : Nat} {held : Bool} {r : Reach} {b0 : Nat} {t e : TypeId} {v : Value} {d : DataW H} {ps : List MemPlace} (ht : P.underlying t = some (.slice e)) (he : P.underlying e = some (.int .u8)) (hc : P.cellsOf e = 1)
  (hval : Value.okWide P w r b0 t v) (hd : DataW.Trod enc P w base (fun _ => true) held t v d ps) :
  ∃ p l c, v = .slice p (l : List UInt8).length c ∧ BytesAt w p l ∧ l.length ≤ c ∧ (l = [] → c = 0 ∨ p ≠ none) ∧ c ≤ maxLen := by
 obtain ⟨a0, len, cap, rfl⟩ := okWide_slice ht hval
 obtain ⟨fuel, hf⟩ := hd
 rcases open_ints ht he hc hf with ⟨hcs, -⟩ | ⟨a, len', cap', zs, hcs, _, hl, hm, hz, hx, hcell, hwz⟩
 ·
  simp [Value.cells] at hcs
  obtain ⟨rfl, rfl, rfl⟩ := hcs
  exact ⟨none, [], 0, rfl, BytesAt.nil w, Nat.le_refl _, fun _ => .inl rfl, by unfold maxLen; omega⟩
 ·
  simp [Value.cells] at hcs
  obtain ⟨rfl, rfl, rfl⟩ := hcs
  simp only [if_true] at hz
  have hlen : ((zs.take len).map fun z => z.toNat.toUInt8).length = len := by simp; omega
  refine ⟨some a, (zs.take len).map fun z => z.toNat.toUInt8, cap, by rw [hlen], ⟨fun _ => rfl, fun j hj => ?_⟩, by omega, fun _ => .inr (by simp), hm⟩
  rw [hlen] at hj
  have hjz : j < zs.length := by omega
  rw [show pA (some a) = a from rfl, hcell j hjz]
  have hw := hwz (zs[j]) (List.getElem_mem _)
  have hwf : 0 ≤ zs[j] ∧ zs[j] ≤ 255 := by
   simp only [Lit.wf, Bool.and_eq_true, decide_eq_true_eq] at hw
   exact hw
  simp only [List.getElem_map, List.getElem_take, List.getD, List.getElem?_eq_getElem hjz, Option.getD_some, Option.some.injEq, Value.int.injEq, true_and]
  have e : (zs[j].toNat.toUInt8).toNat = zs[j].toNat % 256 := by simp
  rw [e]; omega
/-- a reading of an argument stands behind a call that only lays new blocks -/
theorem trod_keep {H : Type} {enc : TypeId × Value → H} {P : Program} {t : TypeId} (hl : laidOutB P = true) (hr : P.readableRec t = true) (hrow : decide (t < P.types.size) = true) {W W' : World} {v : Value} {d : DataW H} {ps : List MemPlace}
  (h : DataW.Trod enc P W 0 (fun _ => true) true t v d ps) (hb : Below W.heap.size W W') (hlt : ∀ x ∈ ps, x.block < W.heap.size) :
  DataW.Trod enc P W' 0 (fun b => decide (b < W.heap.size)) true t v d ps := Below.trod hl hr (of_decide_eq_true hrow) h hb hlt
end Go.Proofs.YtjghbcjnplcleaaGreatDoor

namespace Go.Proofs.YtjghbcjnplcleaaGreatDoor
open Go.Proofs.Tryz
open Go.RowKit Go.WideShapes Go.ChangeShapes
section
variable {P : Program} {n : Sh} {f : Fr}
/-- a string's bytes in a block of their own -/
theorem WL.s2b {ops : Array Oper} {Q : Exit → Fr → World → Prop} {w : World} {rest : List Oper} {d ty : Nat} {pos : String} {aft : Array Edge} {x : Operand} {src dst e : TypeId} {l : List UInt8}
  (hs : P.underlying src = some .string) (hd' : P.underlying dst = some (.slice e)) (he : P.underlying e = some (.int .u8)) (hx : evo f x = some (.string (bs l))) (hd : Nat.blt d n.n = true)
  (k : ∀ b w1 c, b = w.heap.size → BytesAt w1 (some ⟨b, 0, none⟩) l → l.length ≤ c → Upd b w w1 → w1.heap.size = b + 1 → WL P n ops Q rest ((d, .slice (some ⟨b, 0, none⟩) l.length c) :: f) w1) :
  WL P n ops Q (⟨some d, .convert src dst x, ty, pos, aft, none⟩ :: rest) f w := by
 have hrun := Lib.run_convert_string_bytes (P := P) w src dst e (bs l) hs hd' he
 have hsz : (bs l).size = l.length := by simp [bs, ByteArray.size]
 have hu : Upd w.heap.size w (Lib.bytesWorld w e (bs l)) := ⟨rfl, rfl, rfl, by rw [Lib.bytesWorld_size]; omega, fun j hj => by
  rcases Nat.lt_or_ge j w.heap.size with h | h
  ·
   exact Lib.bytesWorld_at_old w e (bs l) j h
  ·
   rw [Array.getElem?_eq_none (by rw [Lib.bytesWorld_size]; omega), Array.getElem?_eq_none h]⟩
 refine WL.run hd (w' := Lib.bytesWorld w e (bs l)) (v := .slice (some ⟨w.heap.size, 0, none⟩) l.length (grownCap w l.length 0 e)) (fun ρ hρ => ?_)
  (k _ _ _ rfl ⟨fun _ => rfl, fun j hj => ?_⟩ (grownCap_ge w l.length 0 e) hu (Lib.bytesWorld_size w e (bs l)))
 ·
  unfold execOp
  simp only [hρ _ _ hx, Sem.run_bind, hrun, Result.andThen_ok, Sem.run_pure, hsz]
 ·
  have e1 : (pA (some ⟨w.heap.size, 0, none⟩)).add j = ⟨w.heap.size, j, none⟩ := by
   show (⟨w.heap.size, 0, none⟩ : Addr).add j = _
   unfold Addr.add; split
   ·
    next h => rw [h]
   ·
    simp
  rw [e1, Lib.bytesWorld_cell w e (bs l) j (by rw [hsz]; exact hj)]
  simp [bs, List.getD, hj]
/-- a literal as a row of the call's own -/
theorem Own.lit {w : World} {b m : Nat} {cs : Array Value} {e : TypeId} (h : Blk w b cs e) (hm : cs.size = m) (hl : m ≤ maxLen) : Own e b w (.slice (some ⟨b, 0, none⟩) m m) cs.toList := by
 subst hm
 refine ⟨by simp, .inr ⟨b, cs.size, cs, ?_, Nat.le_refl _, h, by simp, hl, by simp, by rw [List.take_of_length_le (by simp)]⟩⟩
 simp
end
/-- elements of one cell each in memory -/
structure RowAt {α : Type} (V : α → Value) (w : World) (p : Option Addr) (l : List α) : Prop where
 isp : 0 < l.length → p = some (pA p)
 cells : ∀ j (h : j < l.length), w.cell? ((pA p).add j) = some (V l[j])
section
variable {α : Type} {V : α → Value}
theorem RowAt.lt {w : World} {p : Option Addr} {l : List α} (h : RowAt V w p l) (h0 : 0 < l.length) : (pA p).block < w.heap.size := by
 have := h.cells 0 h0
 rcases Nat.lt_or_ge (pA p).block w.heap.size with h' | h'
 ·
  exact h'
 ·
  exfalso
  have hb : ((pA p).add 0).block = (pA p).block := add_block _ _
  unfold World.cell? at this
  rw [hb, Array.getElem?_eq_none h'] at this
  cases this
theorem RowAt.below {w w1 : World} {B : Nat} {p : Option Addr} {l : List α} (h : RowAt V w p l) (hb : Below B w w1) (hp : 0 < l.length → (pA p).block < B) : RowAt V w1 p l :=
 ⟨h.isp, fun j hj => by rw [World.cell?_of_block (w := w) (hb.block _ (by rw [add_block]; exact hp (by omega)))]; exact h.cells j hj⟩
theorem RowAt.upd {w w1 : World} {b : Nat} {p : Option Addr} {l : List α} (h : RowAt V w p l) (hu : Upd b w w1) (hp : 0 < l.length → (pA p).block ≠ b) : RowAt V w1 p l :=
 ⟨h.isp, fun j hj => by rw [World.cell?_of_block (w := w) (hu.other _ (by rw [add_block]; exact hp (by omega)))]; exact h.cells j hj⟩
theorem RowAt.drewN {w : World} {p : Option Addr} {l : List α} (h : RowAt V w p l) (m : Nat) : RowAt V (w.drewN m) p l := ⟨h.isp, h.cells⟩
theorem RowAt.drew {w w1 : World} {p : Option Addr} {l : List α} (h : RowAt V w p l) (d : Drew w w1) : RowAt V w1 p l := by obtain ⟨m, rfl⟩ := d; exact h.drewN m
theorem RowAt.nil (w : World) : RowAt V w none [] := ⟨fun h => by simp at h, fun j h => by simp at h⟩
theorem RowAt.lit {w : World} {b : Nat} {cs : Array Value} {t : TypeId} {l : List α} (h : Blk w b cs t) (e : cs = (l.map V).toArray) : RowAt V w (some ⟨b, 0, none⟩) l := by
 subst e
 refine ⟨fun _ => rfl, fun j hj => ?_⟩
 have e1 : (pA (some ⟨b, 0, none⟩)).add j = ⟨b, j, none⟩ := by
  show (⟨b, 0, none⟩ : Addr).add j = _
  unfold Addr.add; split
  ·
   next h => subst h; rfl
  ·
   simp
 rw [e1, h.cell j]
 simp [hj]
/-- an own row read as elements -/
theorem Own.row {e : TypeId} {B : Nat} {w : World} {v : Value} {l : List α} (h : Own e B w v (l.map V)) : ∃ p c, v = .slice p l.length c ∧ RowAt V w p l ∧ (0 < l.length → B ≤ (pA p).block) ∧ l.length ≤ c ∧ (l = [] → c = 0 ∨ p ≠ none) := by
  have hbl : (l.map V).length = l.length := by simp
  obtain ⟨hl, h⟩ := h
  rcases h with ⟨rfl, h0⟩ | ⟨g, cap, cur, rfl, hB, hg, hnc, hcm, hcs, htake⟩
  · obtain rfl : l = [] := by rw [hbl] at h0; exact List.length_eq_zero_iff.1 h0
    exact ⟨none, 0, rfl, RowAt.nil w, fun h => by simp at h, Nat.le_refl _, fun _ => .inl rfl⟩
  · rw [hbl] at hnc htake ⊢
    refine ⟨_, cap, rfl, ⟨fun _ => rfl, fun j hj => ?_⟩, fun _ => hB, hnc, fun _ => .inr (by simp)⟩
    have e1 : (pA (some ⟨g, 0, none⟩)).add j = ⟨g, j, none⟩ := by
      show (⟨g, 0, none⟩ : Addr).add j = _
      unfold Addr.add; split
      · next h => subst h; rfl
      · simp
    have hc := Lib.cell_of_heap hg j
    rw [e1, hc, ← Array.getElem?_toList]
    have h2 : (cur.toList.take (l.length * 1))[j]? = (l.map V)[j]? := by rw [htake]
    rw [List.getElem?_take, if_pos (by omega)] at h2
    rw [h2]
    simp [hj]
end
/-- strings -/
abbrev strV (s : List UInt8) : Value := .string (bs s)
end Go.Proofs.YtjghbcjnplcleaaGreatDoor

namespace Go.Proofs.YtjghbcjnplcleaaGreatDoor
open Go.Proofs.Tryz
open Go.RowKit
theorem plex_blank (c : UInt8) (w : World) :
  Calls Tryz.prog 34 #[.int .u8 (c.toNat : Int)] w fun e w' => e = .returned (.bool (blankB c)) ∧ w = w' := by
 refine W.enter func34 rfl ntmps34 (Nat.le_of_ble_eq_true rfl) ?_
 refine W.seq <| W.reg <| WL.p (.as rfl) rfl <| WL.nil <| ?_
 refine W.seq <| W.reg <| WL.p (.mv rfl) rfl <| WL.c1 hb60 rfl rfl ((lib_ib [0, 9, 10, 12, 13, 32] c _)) (fun w1 hw1 => ?_)
 obtain rfl := hw1
 refine WL.p (.bis (blankB c) (.geq rfl rfl) (by exact idx_blank c)) rfl <| WL.p (.as rfl) rfl <| WL.nil <| ?_
 refine W.ret (W.ret1 rfl rfl ?_)
 exact ⟨rfl, rfl⟩
theorem plex_regular (c : UInt8) (w : World) :
  Calls Tryz.prog 32 #[.int .u8 (c.toNat : Int)] w fun e w' => e = .returned (.bool (regB c)) ∧ w = w' := by
 refine W.enter func32 rfl ntmps32 (Nat.le_of_ble_eq_true rfl) ?_
 refine W.seq <| W.reg <| WL.p (.as rfl) rfl <| WL.nil <| ?_
 refine W.seq <| W.reg <| WL.p (.mv rfl) rfl <| WL.c1 hb34 rfl rfl ((plex_blank c _)) (fun w1 hw1 => ?_)
 obtain rfl := hw1
 refine WL.p (.not rfl) rfl <| WL.p (.mv rfl) rfl <| WL.gd rfl rfl rfl (fun g2 => ?_) (fun g2 => ?_)
 ·
  have g2' := (nT g2)
  refine WL.p (.mv rfl) rfl <| WL.gy rfl rfl rfl (by rw [(nT g2)] <;> rfl) <| WL.c1 hb60 rfl rfl ((lib_ib [40, 41, 60, 62, 91, 93, 123, 125, 47, 37] c _)) (fun w3 hw3 => ?_)
  obtain rfl := hw3
  refine WL.gy rfl rfl rfl (by rw [(nT g2)] <;> rfl) <| WL.p (.bis (!delimB c) (.lss rfl rfl) (by exact idx_delim c)) rfl <| WL.p (.pkT rfl (by rw [(nT g2)] <;> rfl) rfl) rfl <| WL.p (.as rfl) rfl <| WL.nil <| ?_
  refine W.ret (W.ret1 rfl rfl ?_)
  exact ⟨ret_bool (by unfold regB; simp_all), rfl⟩
 have g2' := (nF g2)
 refine WL.gn rfl rfl rfl (by rw [(nF g2)] <;> rfl) <| WL.gn rfl rfl rfl (by rw [(nF g2)] <;> rfl) <| WL.p (.pkF rfl (by rw [(nF g2)] <;> rfl) rfl) rfl <| WL.p (.as rfl) rfl <| WL.nil <| ?_
 refine W.ret (W.ret1 rfl rfl ?_)
 exact ⟨ret_bool (by unfold regB; simp_all), rfl⟩
/-- a place of bytes -/
def insA (l : List UInt8) (a : Int) : Nat := if a < 0 ∨ (l.length : Int) < a then l.length else a.toNat
theorem insA_le (l : List UInt8) (a : Int) : insA l a ≤ l.length := by unfold insA; split <;> omega
theorem insA_nat (l : List UInt8) (a : Nat) (h : a ≤ l.length) : insA l a = a := by unfold insA; rw [if_neg (by omega)]; omega
theorem plex_inside (p : Option Addr) (l : List UInt8) (c : Nat) (a : Int) (w : World) :
  Calls Tryz.prog 31 #[.slice p l.length c, .int .i64 a] w fun e w' => e = .returned (.int .i64 (insA l a : Int)) ∧ w = w' := by
 refine W.enter func31 rfl ntmps31 (Nat.le_of_ble_eq_true rfl) ?_
 refine W.seq <| W.reg <| WL.p (.as rfl) rfl <| WL.nil <| ?_
 refine W.seq ?_
 refine W.cutB 12 (decide (a < 0 ∨ (l.length : Int) < a)) ?_ ?_
 ·
  skip
  refine W.reg <| WL.p (.mv rfl) rfl <| WL.p (.lss rfl rfl) rfl <| WL.p (.mv rfl) rfl <| WL.gd rfl rfl rfl (fun g1 => ?_) (fun g1 => ?_)
  ·
   have g1' := of_decide_eq_false g1
   refine WL.p (.mv rfl) rfl <| WL.gy rfl rfl rfl g1 <| WL.p (.mv rfl) rfl <| WL.gy rfl rfl rfl g1 <| WL.p (.lenS underlying22 rfl) rfl <| WL.gy rfl rfl rfl g1 <| WL.p (.gtr rfl rfl) rfl <| WL.p (.pkF rfl g1 rfl) rfl <| WL.nil <| ?_
   exact ⟨⟨lk_b rfl (by (apply Bool.eq_iff_iff.2; (try simp) <;> omega)), by repeat (first | exact Le.refl _ | refine Le.cons rfl ?_)⟩, rfl⟩
  have g1' := of_decide_eq_true g1
  refine WL.gn rfl rfl rfl g1 <| WL.gn rfl rfl rfl g1 <| WL.gn rfl rfl rfl g1 <| WL.p (.pkT rfl g1 rfl) rfl <| WL.nil <| ?_
  exact ⟨⟨lk_b rfl (by (apply Bool.eq_iff_iff.2; (try simp) <;> omega)), by repeat (first | exact Le.refl _ | refine Le.cons rfl ?_)⟩, rfl⟩
 refine W.cond rfl (fun h2 => ?_) (fun h2 => ?_)
 ·
  have h2' := of_decide_eq_true h2
  refine W.seq <| W.reg <| WL.p (.mv rfl) rfl <| WL.p (.lenS underlying22 rfl) rfl <| WL.p (.as rfl) rfl <| WL.nil <| ?_
  refine W.ret (W.ret1 rfl rfl ?_)
  exact ⟨ret_int (by unfold insA; rw [if_pos (by assumption)]), rfl⟩
 have h2' := of_decide_eq_false h2
 refine W.skip <| W.seq <| W.reg <| WL.p (.mv rfl) rfl <| WL.p (.as rfl) rfl <| WL.nil <| ?_
 refine W.ret (W.ret1 rfl rfl ?_)
 exact ⟨ret_int (by unfold insA; rw [if_neg (by assumption)]; omega), rfl⟩
theorem plex_Skip (p : Option Addr) (l : List UInt8) (c : Nat) (a : Int) (w : World) (hb : BytesAt w p l) (hl : l.length ≤ 100000000) :
  Calls Tryz.prog 13 #[.slice p l.length c, .int .i64 a] w fun e w' => e = .returned (.int .i64 (skipAt false l (insA l a) : Int)) ∧ w = w' := by
 obtain ⟨R, hR⟩ : ∃ R, R = skipAt false l (insA l a) := ⟨_, rfl⟩
 have ha := insA_le l a
 rw [← hR]
 refine W.enter func13 rfl ntmps13 (Nat.le_of_ble_eq_true rfl) ?_
 refine W.seq <| W.reg <| WL.p (.as rfl) rfl <| WL.nil <| ?_
 refine W.seq <| W.reg <| WL.p (.mv rfl) rfl <| WL.p (.mv rfl) rfl <| WL.c1 hb31 rfl rfl ((plex_inside p l c a _)) (fun w1 hw1 => ?_)
 obtain rfl := hw1
 refine WL.p (.as rfl) rfl <| WL.nil <| ?_
 refine W.seq <| W.block ?_
 refine W.loop (α := Nat) (fun t => [(0, .slice p l.length c), (1, .int .i64 (t : Int))]) (fun t w' => w = w' ∧ t ≤ l.length ∧ skipAt false l t = R) (fun t => l.length - t) (insA l a) ⟨rfl, rfl, trivial⟩ (⟨rfl, ha, hR.symm⟩) (fun t w1 hR => ?_)
 obtain ⟨rfl, ht, hw⟩ := hR
 obtain ⟨s, rfl⟩ : ∃ s, s = t := ⟨t, rfl⟩
 refine W.seq <| W.seq <| W.reg <| WL.p (.mv rfl) rfl <| WL.p (.mv rfl) rfl <| WL.p (.lenS underlying22 rfl) rfl <| WL.p (.lss rfl rfl) rfl <| WL.nil <| ?_
 refine W.cond rfl (fun h2 => ?_) (fun h2 => ?_)
 ·
  have h2' := of_decide_eq_true h2
  refine W.skip <| W.block <| W.seq <| W.reg ?_
  have hs := skipAt_f l s (by omega)
  have hs' : l[s]! = l[s]'(by omega) := getElem!_pos l s (by omega)
  refine WL.p (.mv rfl) rfl <| WL.p (.mv rfl) rfl <| WL.p (.ixb underlying22 sizeOf5 rfl rfl (hb.isp (by omega)) (s) (rfl) (by omega)) rfl <| WL.r (Rd.ldc (isAgg5 _) rfl (hb.cells (s) (by omega))) rfl <| WL.p (.as rfl) rfl <| WL.nil <| ?_
  refine W.block <| W.seq <| W.reg <| WL.p (.mv rfl) rfl <| WL.c1 hb34 rfl rfl ((plex_blank _ _)) (fun w3 hw3 => ?_)
  obtain rfl := hw3
  refine WL.p (.as rfl) rfl <| WL.nil <| ?_
  refine W.cond rfl (fun h4 => ?_) (fun h4 => ?_)
  ·
   skip
   refine W.reg <| WL.p (.mv rfl) rfl <| WL.p (.add rfl rfl (i64w (by omega))) rfl <| WL.p (.as rfl) rfl <| WL.nil <| ?_
   exact ⟨s + 1, ⟨rfl, lk_i rfl (by omega), trivial⟩, ⟨rfl, by omega, by rw [← hw, hs, if_neg (by rintro e; simp_all [blankB]), if_pos (by simp_all)]⟩, by omega⟩
  refine W.seq <| W.reg <| WL.p (.mv rfl) rfl <| WL.p (.eql rfl rfl) rfl <| WL.p (.as rfl) rfl <| WL.nil <| ?_
  refine W.cond rfl (fun h5 => ?_) (fun h5 => ?_)
  ·
   have h5' := of_decide_eq_true h5
   refine W.block ?_
   refine W.loop (α := Nat) (fun t => [(0, .slice p l.length c), (1, .int .i64 (t : Int))]) (fun t w' => w = w' ∧ s ≤ t ∧ t ≤ l.length ∧ skipAt true l t = R ∧ (t = s → l[s]'(by omega) = 37)) (fun t => l.length - t) (s) ⟨rfl, rfl, trivial⟩ (⟨rfl, by omega, by omega, by rw [skipAt_t l s (by omega), if_neg (by rw [show l[s] = 37 from u8_eq (by assumption)]; decide), ← hw, hs, if_pos (u8_eq (by assumption))], fun _ => u8_eq (by assumption)⟩) (fun t w1 hR => ?_)
   obtain ⟨rfl, hst, ht2, hw2, h37⟩ := hR
   refine W.seq ?_
   refine W.cutB 50 (cmtB l t) ?_ ?_
   ·
    skip
    refine W.reg <| WL.p (.mv rfl) rfl <| WL.p (.mv rfl) rfl <| WL.p (.lenS underlying22 rfl) rfl <| WL.p (.lss rfl rfl) rfl <| WL.p (.mv rfl) rfl <| WL.gd rfl rfl rfl (fun g6 => ?_) (fun g6 => ?_)
    ·
     have g6' := of_decide_eq_true g6
     refine WL.p (.mv rfl) rfl <| WL.gy rfl rfl rfl g6 <| WL.p (.mv rfl) rfl <| WL.gy rfl rfl rfl g6 <| WL.p (.ixb underlying22 sizeOf5 rfl rfl (hb.isp (by omega)) (t) (rfl) (by omega)) rfl <| WL.gy rfl rfl rfl g6 <| WL.r (Rd.ldc (isAgg5 _) rfl (hb.cells (t) (by omega))) rfl <| WL.gy rfl rfl rfl g6 <| WL.p (.neq rfl rfl) rfl <| WL.p (.pkT rfl g6 rfl) rfl <| WL.p (.mv rfl) rfl <| WL.gd rfl rfl rfl (fun g7 => ?_) (fun g7 => ?_)
     ·
      have g7' := ndT g7
      refine WL.p (.mv rfl) rfl <| WL.gy rfl rfl rfl g7 <| WL.p (.mv rfl) rfl <| WL.gy rfl rfl rfl g7 <| WL.p (.ixb underlying22 sizeOf5 rfl rfl (hb.isp (by omega)) (t) (rfl) (by omega)) rfl <| WL.gy rfl rfl rfl g7 <| WL.r (Rd.ldc (isAgg5 _) rfl (hb.cells (t) (by omega))) rfl <| WL.gy rfl rfl rfl g7 <| WL.p (.neq rfl rfl) rfl <| WL.p (.pkT rfl g7 rfl) rfl <| WL.p (.mv rfl) rfl <| WL.gd rfl rfl rfl (fun g8 => ?_) (fun g8 => ?_)
      ·
       have g8' := ndT g8
       refine WL.p (.mv rfl) rfl <| WL.gy rfl rfl rfl g8 <| WL.p (.mv rfl) rfl <| WL.gy rfl rfl rfl g8 <| WL.p (.ixb underlying22 sizeOf5 rfl rfl (hb.isp (by omega)) (t) (rfl) (by omega)) rfl <| WL.gy rfl rfl rfl g8 <| WL.r (Rd.ldc (isAgg5 _) rfl (hb.cells (t) (by omega))) rfl <| WL.gy rfl rfl rfl g8 <| WL.p (.neq rfl rfl) rfl <| WL.p (.pkT rfl g8 rfl) rfl <| WL.nil <| ?_
       exact ⟨⟨lk_b rfl (by (by_cases hq : t < l.length) <;> (unfold cmtB; first | (exfalso; omega) | (rw [getElem!_pos l t hq]; simp_all; done) | (rw [decide_eq_false hq]; simp_all; done))), by repeat (first | exact Le.refl _ | refine Le.cons rfl ?_)⟩, rfl⟩
      have g8' := ndF g8
      refine WL.gn rfl rfl rfl g8 <| WL.gn rfl rfl rfl g8 <| WL.gn rfl rfl rfl g8 <| WL.gn rfl rfl rfl g8 <| WL.p (.pkF rfl g8 rfl) rfl <| WL.nil <| ?_
      exact ⟨⟨lk_b rfl (by (by_cases hq : t < l.length) <;> (unfold cmtB; first | (exfalso; omega) | (rw [getElem!_pos l t hq]; simp_all; done) | (rw [decide_eq_false hq]; simp_all; done))), by repeat (first | exact Le.refl _ | refine Le.cons rfl ?_)⟩, rfl⟩
     have g7' := ndF g7
     refine WL.gn rfl rfl rfl g7 <| WL.gn rfl rfl rfl g7 <| WL.gn rfl rfl rfl g7 <| WL.gn rfl rfl rfl g7 <| WL.p (.pkF rfl g7 rfl) rfl <| WL.p (.mv rfl) rfl <| WL.gn rfl rfl rfl rfl <| WL.gn rfl rfl rfl rfl <| WL.gn rfl rfl rfl rfl <| WL.gn rfl rfl rfl rfl <| WL.gn rfl rfl rfl rfl <| WL.p (.pkF rfl rfl rfl) rfl <| WL.nil <| ?_
     exact ⟨⟨lk_b rfl (by (by_cases hq : t < l.length) <;> (unfold cmtB; first | (exfalso; omega) | (rw [getElem!_pos l t hq]; simp_all; done) | (rw [decide_eq_false hq]; simp_all; done))), by repeat (first | exact Le.refl _ | refine Le.cons rfl ?_)⟩, rfl⟩
    have g6' := of_decide_eq_false g6
    refine WL.gn rfl rfl rfl g6 <| WL.gn rfl rfl rfl g6 <| WL.gn rfl rfl rfl g6 <| WL.gn rfl rfl rfl g6 <| WL.p (.pkF rfl g6 rfl) rfl <| WL.p (.mv rfl) rfl <| WL.gn rfl rfl rfl rfl <| WL.gn rfl rfl rfl rfl <| WL.gn rfl rfl rfl rfl <| WL.gn rfl rfl rfl rfl <| WL.gn rfl rfl rfl rfl <| WL.p (.pkF rfl rfl rfl) rfl <| WL.p (.mv rfl) rfl <| WL.gn rfl rfl rfl rfl <| WL.gn rfl rfl rfl rfl <| WL.gn rfl rfl rfl rfl <| WL.gn rfl rfl rfl rfl <| WL.gn rfl rfl rfl rfl <| WL.p (.pkF rfl rfl rfl) rfl <| WL.nil <| ?_
    exact ⟨⟨lk_b rfl (by (by_cases hq : t < l.length) <;> (unfold cmtB; first | (exfalso; omega) | (rw [getElem!_pos l t hq]; simp_all; done) | (rw [decide_eq_false hq]; simp_all; done))), by repeat (first | exact Le.refl _ | refine Le.cons rfl ?_)⟩, rfl⟩
   refine W.cond rfl (fun h9 => ?_) (fun h9 => ?_)
   ·
    skip
    obtain ⟨hk1, hk2⟩ := cmtB_t (by assumption)
    rw [skipAt_t l t hk1, hk2, if_neg (by simp)] at hw2
    refine W.skip <| W.block <| W.reg <| WL.p (.mv rfl) rfl <| WL.p (.add rfl rfl (i64w (by omega))) rfl <| WL.p (.as rfl) rfl <| WL.nil <| ?_
    exact ⟨t + 1, ⟨rfl, lk_i rfl (by omega), trivial⟩, ⟨rfl, by omega, by omega, by omega, fun h => by omega⟩, by omega⟩
   obtain ⟨hk1, hk2⟩ := cmtB_f (by assumption)
   have hk3 : t ≠ s := fun e => by subst e; exact hk2 (by omega) (h37 rfl)
   refine W.exit ?_
   exact ⟨t, ⟨rfl, lk_i rfl (by omega), trivial⟩, ⟨rfl, by omega, by omega⟩, by omega⟩
  have h5' := of_decide_eq_false h5
  refine W.seq <| W.reg <| WL.p (.mv rfl) rfl <| WL.p (.as rfl) rfl <| WL.nil <| ?_
  refine W.ret (W.ret1 rfl rfl ?_)
  exact ⟨ret_int (by rw [← hw, hs, if_neg (u8_ne (by assumption)), if_neg (by simp_all)]), rfl⟩
 have h2' := of_decide_eq_false h2
 refine W.exit <| W.seq <| W.reg <| WL.p (.mv rfl) rfl <| WL.p (.as rfl) rfl <| WL.nil <| ?_
 refine W.ret (W.ret1 rfl rfl ?_)
 exact ⟨ret_int (by rw [skipAt_end false l s (by omega)] at hw; omega), rfl⟩
/-- the regular bytes at a place -/
def wordL (l : List UInt8) (a : Nat) : List UInt8 := (l.drop a).take (wordAt l a - a)
theorem wordL_eq (l : List UInt8) (a : Nat) : wordL l a = (l.drop a).takeWhile regB := word_take l a
theorem plex_Word (p : Option Addr) (l : List UInt8) (c : Nat) (a : Int) (w : World) (hb : BytesAt w p l) (hc : l.length ≤ c) (hl : l.length ≤ 100000000) :
  Calls Tryz.prog 11 #[.slice p l.length c, .int .i64 a] w fun e w' => e = .returned (.tuple #[.string (bs (wordL l (insA l a))), .int .i64 (wordAt l (insA l a) : Int)]) ∧ w = w' := by
 obtain ⟨R, hR⟩ : ∃ R, R = wordAt l (insA l a) := ⟨_, rfl⟩
 have ha := insA_le l a
 have hwl := wordAt_le l (insA l a) ha
 unfold wordL
 rw [← hR] at hwl ⊢
 refine W.enter func11 rfl ntmps11 (Nat.le_of_ble_eq_true rfl) ?_
 refine W.seq <| W.reg <| WL.p (.as rfl) rfl <| WL.p (.as rfl) rfl <| WL.nil <| ?_
 refine W.seq <| W.reg <| WL.p (.mv rfl) rfl <| WL.p (.mv rfl) rfl <| WL.c1 hb31 rfl rfl ((plex_inside p l c a _)) (fun w1 hw1 => ?_)
 obtain rfl := hw1
 refine WL.p (.as rfl) rfl <| WL.nil <| ?_
 refine W.seq <| W.reg <| WL.p (.mv rfl) rfl <| WL.p (.as rfl) rfl <| WL.nil <| ?_
 refine W.seq <| W.block ?_
 refine W.loop (α := Nat) (fun t => [(0, .slice p l.length c), (1, .int .i64 (insA l a : Int)), (5, .int .i64 (t : Int))]) (fun t w' => w = w' ∧ t ≤ l.length ∧ wordAt l t = R) (fun t => l.length - t) (insA l a) ⟨rfl, rfl, rfl, trivial⟩ (⟨rfl, ha, hR.symm⟩) (fun t w1 hR => ?_)
 obtain ⟨rfl, ht, hw⟩ := hR
 refine W.seq <| W.seq <| W.reg <| WL.p (.mv rfl) rfl <| WL.p (.mv rfl) rfl <| WL.p (.lenS underlying22 rfl) rfl <| WL.p (.lss rfl rfl) rfl <| WL.p (.mv rfl) rfl <| WL.gd rfl rfl rfl (fun g2 => ?_) (fun g2 => ?_)
 ·
  have g2' := of_decide_eq_true g2
  have hs := takeWhile_drop regB l t (by omega)
  refine WL.p (.mv rfl) rfl <| WL.gy rfl rfl rfl g2 <| WL.p (.mv rfl) rfl <| WL.gy rfl rfl rfl g2 <| WL.p (.ixb underlying22 sizeOf5 rfl rfl (hb.isp (by omega)) (t) (rfl) (by omega)) rfl <| WL.gy rfl rfl rfl g2 <| WL.r (Rd.ldc (isAgg5 _) rfl (hb.cells (t) (by omega))) rfl <| WL.gy rfl rfl rfl g2 <| WL.c1 hb32 rfl rfl ((plex_regular _ _)) (fun w3 hw3 => ?_)
  obtain rfl := hw3
  refine WL.p (.pkT rfl g2 rfl) rfl <| WL.nil <| ?_
  refine W.cond rfl (fun h4 => ?_) (fun h4 => ?_)
  ·
   skip
   refine W.skip <| W.block <| W.reg <| WL.p (.mv rfl) rfl <| WL.p (.add rfl rfl (i64w (by omega))) rfl <| WL.p (.as rfl) rfl <| WL.nil <| ?_
   exact ⟨t + 1, ⟨rfl, rfl, lk_i rfl (by omega), trivial⟩, ⟨rfl, by omega, by unfold wordAt at hw ⊢; rw [hs, if_pos (by assumption), List.length_cons] at hw; omega⟩, by omega⟩
  refine W.exit <| W.seq ?_
  have htR : t = R := by
   by_cases hq : t < l.length
   ·
    have hs := takeWhile_drop regB l t hq
    unfold wordAt at hw; rw [hs, if_neg (by simp_all), List.length_nil] at hw; omega
   ·
    unfold wordAt at hw; rw [List.drop_eq_nil_of_le (by omega)] at hw; simp at hw; omega
  refine W.reg <| WL.p (.mv rfl) rfl <| WL.p (.mv rfl) rfl <| WL.p (.mv rfl) rfl <| WL.p (.slb underlying22 sizeOf5 rfl rfl rfl  (insA l a) (R) (rfl) (by omega) (by omega) (by omega)) rfl <| WL.r (Rd.b2sPart underlying22 underlying5 underlying9 rfl rfl hb (by omega) (by omega) (by omega)) rfl <| WL.p (.mv rfl) rfl <| WL.p (.as rfl) rfl <| WL.p (.as rfl) rfl <| WL.nil <| ?_
  refine W.ret (W.ret2 rfl rfl rfl ?_)
  exact ⟨ret_val (by subst htR; rfl), rfl⟩
 have g2' := of_decide_eq_false g2
 refine WL.gn rfl rfl rfl g2 <| WL.gn rfl rfl rfl g2 <| WL.gn rfl rfl rfl g2 <| WL.gn rfl rfl rfl g2 <| WL.p (.pkF rfl g2 rfl) rfl <| WL.nil <| ?_
 refine W.condF rfl rfl ?_
 refine W.exit <| W.seq ?_
 have htR : t = R := by
  by_cases hq : t < l.length
  ·
   have hs := takeWhile_drop regB l t hq
   unfold wordAt at hw; rw [hs, if_neg (by simp_all), List.length_nil] at hw; omega
  ·
   unfold wordAt at hw; rw [List.drop_eq_nil_of_le (by omega)] at hw; simp at hw; omega
 refine W.reg <| WL.p (.mv rfl) rfl <| WL.p (.mv rfl) rfl <| WL.p (.mv rfl) rfl <| WL.p (.slb underlying22 sizeOf5 rfl rfl rfl  (insA l a) (R) (rfl) (by omega) (by omega) (by omega)) rfl <| WL.r (Rd.b2sPart underlying22 underlying5 underlying9 rfl rfl hb (by omega) (by omega) (by omega)) rfl <| WL.p (.mv rfl) rfl <| WL.p (.as rfl) rfl <| WL.p (.as rfl) rfl <| WL.nil <| ?_
 refine W.ret (W.ret2 rfl rfl rfl ?_)
 exact ⟨ret_val (by subst htR; rfl), rfl⟩
theorem lib_trim (l cs : List UInt8) (w : World) (hl : l.length ≤ 100000000) (hc : cs.length ≤ 1000) (ha : ∀ b ∈ cs, b.toNat < 128) :
  Calls Tryz.prog 116 #[.string (bs l), .string (bs cs)] w fun e w' => e = .returned (.string (bs (Lib.trimS l cs))) ∧ Below w.heap.size w w' := by
 refine (Any.strings_Trim_laid Tryz.lays160 (by kernel_rfl) (bs l) (bs cs) w (by rw [bs_size]; omega) (by rw [bs_size]; omega) ?_).mono fun e w' h => ⟨?_, h.2⟩
 ·
  intro j b hb
  have : (bs cs).data.toList = cs := by simp [bs]
  rw [this] at hb
  exact ha b (List.mem_of_getElem? hb)
 ·
  rw [h.1]
  have h1 : (bs l).data.toList = l := by simp [bs]
  have h2 : (bs cs).data.toList = cs := by simp [bs]
  rw [h1, h2]; rfl
theorem trim_dig (l : List UInt8) : (decide (Lib.trimS l [48, 49, 50, 51, 52, 53, 54, 55, 56, 57] = [])) = l.all isDig := by
 have : (fun x => ([48, 49, 50, 51, 52, 53, 54, 55, 56, 57] : List UInt8).contains x) = isDig := funext digs_contains
 rw [Bool.eq_iff_iff, decide_eq_true_eq, trimS_nil_iff, this]
/-- a number of digits alone -/
def wholeOk (s : List UInt8) : Bool := !decide (s = []) && decide (s.length ≤ 10) && s.all isDig
def wholeV (s : List UInt8) (most : Int) : Int × Bool := if wholeOk s then ((natOf s : Int), decide ((natOf s : Int) ≤ most)) else (0, false)
theorem plex_whole (s : List UInt8) (most : Int) (w : World) (hl : s.length ≤ 100000000) :
  Calls Tryz.prog 113 #[.string (bs s), .int .i64 most] w fun e w' => e = .returned (.tuple #[.int .i64 (wholeV s most).1, .bool (wholeV s most).2]) ∧ Below w.heap.size w w' := by
 refine W.enter func113 rfl ntmps113 (Nat.le_of_ble_eq_true rfl) ?_
 have hB0 := Below.refl (w.heap.size) w
 refine W.seq <| W.reg <| WL.p (.as rfl) rfl <| WL.p (.as rfl) rfl <| WL.nil <| ?_
 refine W.seq ?_
 refine W.cut (α := Unit) (fun t => [(0, .string (bs s)), (1, .int .i64 most), (4, .int .i64 0), (5, .bool false), (20, .bool (!wholeOk s))]) (fun t w' => Below w.heap.size w w') ?_ (fun t w1 hR => ?_)
 ·
  skip
  refine W.reg <| WL.p (.mv rfl) rfl <| WL.p (.eqs rfl rfl) rfl <| WL.p (.mv rfl) rfl <| WL.gd rfl rfl rfl (fun g1 => ?_) (fun g1 => ?_)
  ·
   have g1' := of_decide_eq_false g1
   refine WL.p (.mv rfl) rfl <| WL.gy rfl rfl rfl g1 <| WL.p (.len underlying9 rfl) rfl <| WL.gy rfl rfl rfl g1 <| WL.p (.gtr rfl rfl) rfl <| WL.p (.pkF rfl g1 rfl) rfl <| WL.p (.mv rfl) rfl <| WL.gd rfl rfl rfl (fun g2 => ?_) (fun g2 => ?_)
   ·
    have g2' := of_decide_eq_false g2
    refine WL.p (.mv rfl) rfl <| WL.gy rfl rfl rfl g2 <| WL.c1 hb116 rfl rfl ((lib_trim s [48, 49, 50, 51, 52, 53, 54, 55, 56, 57] _ hl (by decide) (by decide))) (fun w3 hw3 => ?_)
    have hB4 := btr hB0 hw3
    refine WL.gy rfl rfl rfl g2 <| WL.p (.bis (!s.all isDig) (.nes rfl rfl) (by rw [trim_dig])) rfl <| WL.p (.pkF rfl g2 rfl) rfl <| WL.nil <| ?_
    exact ⟨(), ⟨rfl, rfl, rfl, rfl, lk_b rfl (by unfold wholeOk; first | (simp_all; done) | (simp_all; omega)), trivial⟩, hB4⟩
   have g2' := of_decide_eq_true g2
   refine WL.gn rfl rfl rfl g2 <| WL.gn rfl rfl rfl g2 <| WL.p (.pkT rfl g2 rfl) rfl <| WL.nil <| ?_
   exact ⟨(), ⟨rfl, rfl, rfl, rfl, lk_b rfl (by unfold wholeOk; first | (simp_all; done) | (simp_all; omega)), trivial⟩, hB0⟩
  have g1' := of_decide_eq_true g1
  refine WL.gn rfl rfl rfl g1 <| WL.gn rfl rfl rfl g1 <| WL.p (.pkT rfl g1 rfl) rfl <| WL.p (.mv rfl) rfl <| WL.gn rfl rfl rfl rfl <| WL.gn rfl rfl rfl rfl <| WL.gn rfl rfl rfl rfl <| WL.p (.pkT rfl rfl rfl) rfl <| WL.nil <| ?_
  exact ⟨(), ⟨rfl, rfl, rfl, rfl, lk_b rfl (by unfold wholeOk; first | (simp_all; done) | (simp_all; omega)), trivial⟩, hB0⟩
 have hBj := hR
 refine W.cond rfl (fun h5 => ?_) (fun h5 => ?_)
 ·
  skip
  have hno : wholeOk s = false := by simp_all
  refine W.seq <| W.reg <| WL.p (.as rfl) rfl <| WL.p (.as rfl) rfl <| WL.nil <| ?_
  refine W.ret (W.ret2 rfl rfl rfl ?_)
  exact ⟨ret_ib (by unfold wholeV; rw [hno]; rfl) (by unfold wholeV; rw [hno]; rfl), hBj⟩
 have hok : wholeOk s = true := by simp_all
 have hok' := hok
 unfold wholeOk at hok'
 simp only [Bool.and_eq_true, decide_eq_true_eq, Bool.not_eq_true', decide_eq_false_iff_not] at hok'
 have hdig := List.all_eq_true.1 hok'.2
 refine W.skip <| W.seq <| W.reg <| WL.p (.as rfl) rfl <| WL.nil <| ?_
 refine W.seq <| W.seq <| W.reg <| WL.p (.mv rfl) rfl <| WL.s2b underlying9 underlying22 underlying5 rfl rfl (fun b6 wb6 cz eb6 hz hcz hub6 hsb6 => ?_)
 have hB7 := Upd.below hBj (by rw [eb6]; exact hBj.size) hub6
 have hgeb6 : w.heap.size ≤ b6 := by rw [eb6]; exact hBj.size
 refine WL.p (.lenS underlying22 rfl) rfl <| WL.p (.mv rfl) rfl <| WL.nil <| ?_
 refine W.block ?_
 refine W.loop (α := Nat) (fun t => [(0, .string (bs s)), (1, .int .i64 most), (6, .int .i64 (natOf (s.take t) : Int)), (22, .slice (some ⟨b6, 0, none⟩) s.length cz), (23, .int .i64 (s.length : Int)), (24, .int .i64 (t : Int))]) (fun t w' => wb6 = w' ∧ t ≤ s.length) (fun t => s.length - t) (0) ⟨rfl, rfl, rfl, rfl, rfl, rfl, trivial⟩ (⟨rfl, Nat.zero_le _⟩) (fun t w1 hR => ?_)
 obtain ⟨i, rfl⟩ : ∃ i, i = t := ⟨t, rfl⟩
 obtain ⟨rfl, hi⟩ := hR
 refine W.seq <| W.reg <| WL.p (.lss rfl rfl) rfl <| WL.nil <| ?_
 refine W.seq <| W.cond rfl (fun h8 => ?_) (fun h8 => ?_)
 ·
  have h8' := of_decide_eq_true h8
  refine W.skip <| W.seq <| W.block <| W.seq <| W.reg <| WL.p (.ixb underlying22 sizeOf5 rfl rfl (hz.isp (by omega)) (i) (rfl) (by omega)) rfl <| WL.r (Rd.ldc (isAgg5 _) rfl (hz.cells (i) (by omega))) rfl <| WL.p (.as rfl) rfl <| WL.nil <| ?_
  have hst := natOf_take s i (by omega)
  have hbd := isDig_bounds (hdig _ (List.getElem_mem (show i < s.length by omega)))
  have hlt := natOf_lt (s.take i) (fun c hc => hdig c (List.mem_of_mem_take hc))
  have hpw : 10 ^ (s.take i).length ≤ 10 ^ 9 := Nat.pow_le_pow_right (by omega) (by rw [List.length_take]; omega)
  refine W.reg <| WL.p (.mv rfl) rfl <| WL.p (.mul rfl rfl (i64w (by omega))) rfl <| WL.p (.mv rfl) rfl <| WL.p (.sub rfl rfl (u8w (by omega))) rfl <| WL.p (.cvt underlying5 underlying3 rfl (i64w (by omega))) rfl <| WL.p (.iis ((natOf (s.take (i + 1)) : Int)) (.add rfl rfl (i64w (by omega))) (by omega)) rfl <| WL.p (.as rfl) rfl <| WL.nil <| ?_
  refine W.reg <| WL.p (.iis (((i + 1 : Nat) : Int)) (.add rfl rfl (i64w (by omega))) (by omega)) rfl <| WL.p (.mv rfl) rfl <| WL.nil <| ?_
  exact ⟨i + 1, ⟨rfl, rfl, rfl, rfl, rfl, rfl, trivial⟩, ⟨rfl, by ((try simp only) <;> omega)⟩, by ((try simp only) <;> omega)⟩
 have h8' := of_decide_eq_false h8
 refine W.exit <| W.seq ?_
 obtain rfl : i = s.length := by omega
 rw [List.take_length]
 refine W.reg <| WL.p (.mv rfl) rfl <| WL.p (.mv rfl) rfl <| WL.p (.mv rfl) rfl <| WL.p (.leq rfl rfl) rfl <| WL.p (.as rfl) rfl <| WL.p (.as rfl) rfl <| WL.nil <| ?_
 refine W.ret (W.ret2 rfl rfl rfl ?_)
 exact ⟨ret_ib (by unfold wholeV; rw [hok]; rfl) (by unfold wholeV; rw [hok]; rfl), hB7⟩
end Go.Proofs.YtjghbcjnplcleaaGreatDoor

namespace Go.Proofs.YtjghbcjnplcleaaGreatDoor
open Go.Proofs.Tryz
open Go.RowKit Go.WideShapes Go.ChangeShapes
theorem add_lit (b o j : Nat) : (⟨b, o, none⟩ : Addr).add j = ⟨b, o + j, none⟩ := by
 unfold Addr.add; split <;> simp_all
/-- how an element is laid: m cells, each of one value -/
structure Lay (α : Type) where
 m : Nat
 V : α → List Value
 pos : 0 < m
 len : ∀ x, (V x).length = m
 one : ∀ x, ∀ v ∈ V x, v.oneCell' = true
variable {α : Type}
def Lay.flat (L : Lay α) (l : List α) : List Value := l.flatMap L.V
theorem Lay.flat_len (L : Lay α) : ∀ l : List α, (L.flat l).length = l.length * L.m
 | [] => by simp [Lay.flat]
 | x :: l => by
  have := L.flat_len l
  unfold Lay.flat at this ⊢
  simp only [List.flatMap_cons, List.length_append, L.len, this, List.length_cons, Nat.succ_mul]; omega
theorem Lay.flat_append (L : Lay α) (l k : List α) : L.flat (l ++ k) = L.flat l ++ L.flat k := by simp [Lay.flat]
theorem Lay.flat_one (L : Lay α) (l : List α) : ∀ v ∈ L.flat l, v.oneCell' = true := by
 intro v hv
 simp only [Lay.flat, List.mem_flatMap] at hv
 obtain ⟨x, -, h⟩ := hv
 exact L.one x v h
theorem Lay.flat_at (L : Lay α) : ∀ (l : List α) (j : Nat) (h : j < l.length) (i : Nat), i < L.m → (L.flat l)[j * L.m + i]? = (L.V l[j])[i]?
 | x :: l, 0, h, i, hi => by
  simp only [Lay.flat, List.flatMap_cons, Nat.zero_mul, Nat.zero_add, List.getElem_cons_zero]
  rw [List.getElem?_append_left (by rw [L.len]; exact hi)]
 | x :: l, j + 1, h, i, hi => by
  have ih := L.flat_at l j (by simpa using h) i hi
  simp only [Lay.flat, List.flatMap_cons, List.getElem_cons_succ] at ih ⊢
  rw [List.getElem?_append_right (by rw [L.len, Nat.succ_mul]; omega), L.len, ← ih]
  congr 1
  rw [Nat.succ_mul]; omega
theorem Lay.flat_take (L : Lay α) (l : List α) (k : Nat) : (L.flat l).take (k * L.m) = L.flat (l.take k) := by
 induction l generalizing k with
 | nil => simp [Lay.flat]
 | cons x l ih =>
  cases k with
  | zero => simp [Lay.flat]
  | succ k =>
   have := ih k
   simp only [Lay.flat, List.flatMap_cons, List.take_succ_cons] at this ⊢
   rw [List.take_append, L.len, List.take_of_length_le (by rw [L.len, Nat.succ_mul]; omega), ← this]
   congr 2
   rw [Nat.succ_mul]; omega
/-- elements of several cells each in memory -/
structure RowM (L : Lay α) (w : World) (p : Option Addr) (l : List α) : Prop where
 isp : 0 < l.length → p = some (pA p)
 cells : ∀ j (h : j < l.length) i, i < L.m → w.cell? ((pA p).add (j * L.m + i)) = (L.V l[j])[i]?
section
variable {L : Lay α}
theorem RowM.flat {w : World} {p : Option Addr} {l : List α} (h : RowM L w p l) : ∀ k v, (L.flat l)[k]? = some v → w.cell? ((pA p).add k) = some v := by
 intro k v hk
 have hlt : k < (L.flat l).length := by
  rcases Nat.lt_or_ge k (L.flat l).length with h | h
  ·
   exact h
  ·
   rw [List.getElem?_eq_none h] at hk; cases hk
 rw [L.flat_len] at hlt
 have hj : k / L.m < l.length := (Nat.div_lt_iff_lt_mul L.pos).2 hlt
 have hi := Nat.mod_lt k L.pos
 have e : k / L.m * L.m + k % L.m = k := Nat.div_add_mod' k L.m
 have h1 := L.flat_at l (k / L.m) hj (k % L.m) hi
 have h2 := h.cells (k / L.m) hj (k % L.m) hi
 rw [e] at h1 h2
 rw [h2, ← h1, hk]
theorem RowM.of_flat {w : World} {p : Option Addr} {l : List α} (hp : 0 < l.length → p = some (pA p)) (h : ∀ k v, (L.flat l)[k]? = some v → w.cell? ((pA p).add k) = some v) : RowM L w p l :=
 ⟨hp, fun j hj i hi => by
  have h1 := L.flat_at l j hj i hi
  have h2 : i < (L.V l[j]).length := by rw [L.len]; exact hi
  rw [List.getElem?_eq_getElem h2] at h1 ⊢
  exact h _ _ h1⟩
theorem RowM.lt {w : World} {p : Option Addr} {l : List α} (h : RowM L w p l) (h0 : 0 < l.length) : (pA p).block < w.heap.size := by
 have hc := h.cells 0 h0 0 L.pos
 rw [List.getElem?_eq_getElem (by rw [L.len]; exact L.pos)] at hc
 rcases Nat.lt_or_ge (pA p).block w.heap.size with h' | h'
 ·
  exact h'
 ·
  exfalso
  have hb : ((pA p).add (0 * L.m + 0)).block = (pA p).block := add_block _ _
  unfold World.cell? at hc
  rw [hb, Array.getElem?_eq_none h'] at hc
  cases hc
theorem RowM.same {w w1 : World} {p : Option Addr} {l : List α} (h : RowM L w p l) (hb : 0 < l.length → w1.heap[(pA p).block]? = w.heap[(pA p).block]?) : RowM L w1 p l :=
 ⟨h.isp, fun j hj i hi => by rw [World.cell?_of_block (w := w) (by rw [add_block]; exact hb (by omega))]; exact h.cells j hj i hi⟩
theorem RowM.below {w w1 : World} {B : Nat} {p : Option Addr} {l : List α} (h : RowM L w p l) (hb : Below B w w1) (hp : 0 < l.length → (pA p).block < B) : RowM L w1 p l := h.same fun h0 => hb.block _ (hp h0)
theorem RowM.upd {w w1 : World} {b : Nat} {p : Option Addr} {l : List α} (h : RowM L w p l) (hu : Upd b w w1) (hp : 0 < l.length → (pA p).block ≠ b) : RowM L w1 p l := h.same fun h0 => hu.other _ (hp h0)
theorem RowM.drewN {w : World} {p : Option Addr} {l : List α} (h : RowM L w p l) (m : Nat) : RowM L (w.drewN m) p l := ⟨h.isp, h.cells⟩
theorem RowM.drew {w w1 : World} {p : Option Addr} {l : List α} (h : RowM L w p l) (d : Drew w w1) : RowM L w1 p l := by obtain ⟨m, rfl⟩ := d; exact h.drewN m
theorem RowM.nil (w : World) : RowM L w none [] := ⟨fun h => by simp at h, fun j h => by simp at h⟩
/-- a part of it -/
def pPartM (m : Nat) (p : Option Addr) (c a : Nat) : Option Addr := if c = a then p else p.map (·.add (a * m))
theorem RowM.part {w : World} {p : Option Addr} {l : List α} {c a b : Nat} (h : RowM L w p l) (hab : a ≤ b) (hb : b ≤ l.length) (hc : l.length ≤ c) : RowM L w (pPartM L.m p c a) ((l.drop a).take (b - a)) := by
  have hlen : ((l.drop a).take (b - a)).length = b - a := by rw [List.length_take, List.length_drop]; omega
  by_cases h0 : a = b
  · refine ⟨fun h => ?_, fun j hj => ?_⟩ <;> rw [hlen] at * <;> omega
  · have hp := h.isp (by omega)
    have e1 : pPartM L.m p c a = some ((pA p).add (a * L.m)) := by unfold pPartM; rw [if_neg (by omega)]; rw [hp]; rfl
    rw [e1]
    refine ⟨fun _ => rfl, fun j hj i hi => ?_⟩
    rw [hlen] at hj
    show w.cell? (((pA p).add (a * L.m)).add (j * L.m + i)) = _
    rw [add_add, show a * L.m + (j * L.m + i) = (a + j) * L.m + i by rw [Nat.add_mul]; omega, h.cells (a + j) (by omega) i hi]
    simp
/-- such a row of the call's own: from block B on; the row may go on behind the slice's room -/
def OwnM (L : Lay α) (e : TypeId) (B : Nat) (w : World) (v : Value) (l : List α) : Prop :=
 (v = .slice none 0 0 ∧ l = []) ∨ ∃ g cap cur, v = .slice (some ⟨g, 0, none⟩) l.length cap ∧ B ≤ g ∧ w.heap[g]? = some (.cells cur e (0, 0)) ∧ l.length ≤ cap ∧ cap ≤ maxLen ∧ cap * L.m ≤ cur.size ∧ cur.toList.take (l.length * L.m) = L.flat l
theorem OwnM.nil (L : Lay α) (e : TypeId) (B : Nat) (w : World) : OwnM L e B w (.slice none 0 0) [] := .inl ⟨rfl, rfl⟩
theorem OwnM.of {e : TypeId} {B : Nat} {w : World} {v : Value} {l : List α} (h : w.ownsRow B e L.m v l.length (L.flat l)) : OwnM L e B w v l := by
 obtain ⟨hl, h⟩ := h
 rcases h with ⟨rfl, h0⟩ | ⟨g, cap, cur, h1, h2, h3, h4, h5, h6, h7⟩
 ·
  exact .inl ⟨rfl, List.length_eq_zero_iff.1 h0⟩
 ·
  exact .inr ⟨g, cap, cur, h1, h2, h3, h4, h5, by omega, h7⟩
theorem OwnM.row {e : TypeId} {B : Nat} {w : World} {v : Value} {l : List α} (h : OwnM L e B w v l) : ∃ p c, v = .slice p l.length c ∧ RowM L w p l ∧ (∀ a, p = some a → B ≤ a.block) ∧ l.length ≤ c ∧ (l = [] → c = 0 ∨ p ≠ none) ∧ v.ownBlock = p.map (·.block) ∧ c ≤ maxLen ∧ (p = none ∨ ∃ g, p = some ⟨g, 0, none⟩) := by
  rcases h with ⟨rfl, rfl⟩ | ⟨g, cap, cur, rfl, hB, hg, hnc, hcm, hcs, htake⟩
  · exact ⟨none, 0, rfl, RowM.nil w, fun a h => (by cases h), Nat.le_refl _, fun _ => .inl rfl, rfl, (by unfold maxLen; omega), .inl rfl⟩
  · refine ⟨_, cap, rfl, RowM.of_flat (fun _ => rfl) fun k v hk => ?_, fun a h => (by cases h; exact hB), hnc, fun _ => .inr (by simp), rfl, hcm, .inr ⟨g, rfl⟩⟩
    show w.cell? ((⟨g, 0, none⟩ : Addr).add k) = _
    rw [add_lit, Nat.zero_add, Lib.cell_of_heap hg k, ← Array.getElem?_toList]
    have h2 : (cur.toList.take (l.length * L.m))[k]? = (L.flat l)[k]? := by rw [htake]
    have hk2 : k < (L.flat l).length := by
      rcases Nat.lt_or_ge k (L.flat l).length with h | h
      · exact h
      · rw [List.getElem?_eq_none h] at hk; cases hk
    rw [L.flat_len] at hk2
    rw [List.getElem?_take, if_pos hk2] at h2
    rw [h2, hk]
theorem OwnM.same {e : TypeId} {B : Nat} {w w1 : World} {v : Value} {l : List α} (h : OwnM L e B w v l) (hb : ∀ g, v.ownBlock = some g → w1.heap[g]? = w.heap[g]?) : OwnM L e B w1 v l := by
 refine h.imp id fun ⟨g, cap, cur, h1, h2, h3, h4⟩ => ⟨g, cap, cur, h1, h2, ?_, h4⟩
 rw [hb g (by rw [h1]; rfl)]; exact h3
theorem OwnM.lt {e : TypeId} {B : Nat} {w : World} {v : Value} {l : List α} (h : OwnM L e B w v l) : ∀ g, v.ownBlock = some g → B ≤ g ∧ g < w.heap.size := by
 intro g hg
 rcases h with ⟨rfl, rfl⟩ | ⟨g', cap, cur, rfl, hB, h3, h4⟩
 ·
  cases hg
 ·
  cases hg
  exact ⟨hB, (Array.getElem?_eq_some_iff.1 h3).1⟩
theorem OwnM.base {e : TypeId} {B C : Nat} {w : World} {v : Value} {l : List α} (h : OwnM L e B w v l) (hC : ∀ g, v.ownBlock = some g → C ≤ g) : OwnM L e C w v l :=
 h.imp id fun ⟨g, cap, cur, h1, h2, h3⟩ => ⟨g, cap, cur, h1, hC g (by rw [h1]; rfl), h3⟩
theorem OwnM.drew {e : TypeId} {B : Nat} {w w1 : World} {v : Value} {l : List α} (h : OwnM L e B w v l) (d : Drew w w1) : OwnM L e B w1 v l := by obtain ⟨m, rfl⟩ := d; exact h
theorem OwnM.below {e : TypeId} {B : Nat} {w w1 : World} {v : Value} {l : List α} (h : OwnM L e B w v l) (hb : Below w.heap.size w w1) : OwnM L e B w1 v l := h.same fun g hg => hb.block g (h.lt g hg).2
theorem OwnM.new {e : TypeId} {B b : Nat} {w w1 : World} {v : Value} {l : List α} (h : OwnM L e B w v l) (eb : b = w.heap.size) (hu : Upd b w w1) : OwnM L e B w1 v l := h.same fun g hg => hu.other g (by have := (h.lt g hg).2; omega)
theorem OwnM.upd {e : TypeId} {B r : Nat} {w w1 : World} {v : Value} {l : List α} (h : OwnM L e B w v l) (hu : Upd r w w1) (hr : ∀ g, v.ownBlock = some g → g ≠ r) : OwnM L e B w1 v l := h.same fun g hg => hu.other g (hr g hg)
theorem OwnM.touch {e : TypeId} {B r : Nat} {w w1 : World} {v : Value} {l : List α} (h : OwnM L e B w v l) (hu : Upd r w w1) (hr : r < B) : OwnM L e B w1 v l := h.same fun g hg => hu.other g (by have := (h.lt g hg).1; omega)
theorem OwnM.one {e : TypeId} {B : Nat} {w : World} {v : Value} {l : List α} (h : OwnM L e B w v l) : v.oneCell' = true := by
 rcases h with ⟨rfl, -⟩ | ⟨g, cap, cur, rfl, -⟩ <;> rfl
/-- the first k alone -/
theorem OwnM.cut {e : TypeId} {B : Nat} {w : World} {p : Option Addr} {n c : Nat} {l : List α} (h : OwnM L e B w (.slice p n c) l) (k : Nat) (hk : k ≤ l.length) : OwnM L e B w (.slice p k k) (l.take k) := by
 rcases h with ⟨h1, rfl⟩ | ⟨g, cap, cur, h1, hB, hg, hnc, hcm, hcs, htake⟩
 ·
  cases h1
  obtain rfl : k = 0 := by simpa using hk
  exact .inl ⟨rfl, by simp⟩
 ·
  cases h1
  have hlen : (l.take k).length = k := by rw [List.length_take]; omega
  refine .inr ⟨g, k, cur, by rw [hlen], hB, hg, by rw [hlen]; exact Nat.le_refl _, by omega, Nat.le_trans (Nat.mul_le_mul_right _ (by omega)) hcs, ?_⟩
  rw [hlen, ← L.flat_take, ← htake, List.take_take, Nat.min_eq_left (Nat.mul_le_mul_right _ hk)]
end
/-- a stretch of what may have turned: only these blocks of the old ones -/
structure Keep (S : List Nat) (w w1 : World) : Prop where
 os : w1.os = w.os
 tape : w1.tape = w.tape
 output : w1.output = w.output
 size : w.heap.size ≤ w1.heap.size
 block : ∀ k, k < w.heap.size → k ∉ S → w1.heap[k]? = w.heap[k]?
theorem Keep.refl (S : List Nat) (w : World) : Keep S w w := ⟨rfl, rfl, rfl, Nat.le_refl _, fun _ _ _ => rfl⟩
theorem Keep.below {S : List Nat} {w w1 : World} (h : Keep S w w1) {B : Nat} (hB : B ≤ w.heap.size) (hS : ∀ k ∈ S, B ≤ k) : Below B w w1 :=
 ⟨h.os, h.tape, h.output, h.size, fun k hk => h.block k (by omega) fun hm => by have := hS k hm; omega⟩
/-- .. from an older world on -/
structure KeepB (B : Nat) (S : List Nat) (w w1 : World) : Prop where
 os : w1.os = w.os
 tape : w1.tape = w.tape
 output : w1.output = w.output
 size : w.heap.size ≤ w1.heap.size
 block : ∀ k, k < B → k ∉ S → w1.heap[k]? = w.heap[k]?
theorem KeepB.trans {B : Nat} {S : List Nat} {a b c : World} (h : KeepB B S a b) (k : KeepB B S b c) : KeepB B S a c :=
 ⟨k.os.trans h.os, k.tape.trans h.tape, k.output.trans h.output, Nat.le_trans h.size k.size, fun i hi hr => (k.block i hi hr).trans (h.block i hi hr)⟩
theorem KeepB.mono {B B' : Nat} {S : List Nat} {a b : World} (h : KeepB B' S a b) (hB : B ≤ B') : KeepB B S a b := ⟨h.os, h.tape, h.output, h.size, fun i hi hS => h.block i (by omega) hS⟩
theorem KeepB.of_below {B B' : Nat} {S : List Nat} {a b : World} (h : Below B' a b) (hB : B ≤ B') : KeepB B S a b := ⟨h.os, h.tape, h.output, h.size, fun i hi _ => h.block i (by omega)⟩
theorem KeepB.of_drew {B : Nat} {S : List Nat} {a b : World} (h : Drew a b) : KeepB B S a b := KeepB.of_below (h.below (Below.refl B _)) (Nat.le_refl _)
theorem KeepB.of_new {B c : Nat} {S : List Nat} {a b : World} (h : Upd c a b) (hc : B ≤ c) : KeepB B S a b := ⟨h.os, h.tape, h.output, h.size, fun i hi _ => h.other i (by omega)⟩
theorem KeepB.below {B C : Nat} {S : List Nat} {w w1 : World} (h : KeepB B S w w1) (hB : C ≤ B) (hS : ∀ k ∈ S, C ≤ k) : Below C w w1 :=
 ⟨h.os, h.tape, h.output, h.size, fun k hk => h.block k (by omega) fun hm => by have := hS k hm; omega⟩
theorem KeepB.refl (B : Nat) (S : List Nat) (w : World) : KeepB B S w w := ⟨rfl, rfl, rfl, Nat.le_refl _, fun _ _ _ => rfl⟩
section
variable {P : Program} {n : Sh} {f : Fr} {L : Lay α}
/-- elements put behind a row of the call's own -/
theorem WL.appMb {ops : Array Oper} {Q : Exit → Fr → World → Prop} {w : World} {rest : List Oper} {d ty : Nat} {pos : String} {aft : Array Edge} {s x : Operand} {t e : TypeId} {B : Nat} {z v : Value} {xs l : List α} {p : Option Addr} {c by' : Nat}
  (ht : P.underlying t = some (.slice e)) (hi : (P.info? e).map (fun i => (i.zero, i.size, i.bytes)) = some (some z, L.m, by')) (hby2 : Nat.ble by' 1000 = true) (hzs : z.cells.size = L.m)
  (hs : evo f s = some v) (hown : OwnM L e B w v xs) (hx : evo f x = some (.slice p l.length c)) (hb : RowM L w p l)
  (hn : xs.length + l.length ≤ 4611686018427387904) (hbt : (xs.length + l.length) * by' ≤ 140737488355328) (hB : B ≤ w.heap.size) (hd : Nat.blt d n.n = true) (hc : l = [] → c = 0 ∨ p ≠ none)
  (k : ∀ v' w', OwnM L e B w' v' (xs ++ l) → Below B w w' → w.grownBy w' v.ownBlock → (∀ g, v'.ownBlock = some g → v.ownBlock = some g ∨ w.heap.size ≤ g) → WL P n ops Q rest ((d, v') :: f) w') :
  WL P n ops Q (⟨some d, .call ⟨.builtin .append, #[s, x], #[t, t]⟩, ty, pos, aft, none⟩ :: rest) f w := by
 cases hh : P.info? e with
 | none => rw [hh] at hi; cases hi
 | some i =>
  rw [hh] at hi
  simp only [Option.map_some, Option.some.injEq, Prod.mk.injEq] at hi
  obtain ⟨hz, hsize, hby⟩ := hi
  have hby2' : by' ≤ 1000 := by simpa using hby2
  have hlx := L.flat_len xs
  have hll := L.flat_len l
  have e1 : (xs ++ l).length = xs.length + l.length := by simp
  have fin : ∀ (w' : World) (g cap : Nat) (cur : Array Value), B ≤ g → w'.heap[g]? = some (.cells cur e (0, 0)) → xs.length + l.length ≤ cap → cap ≤ maxLen → cap * L.m ≤ cur.size → cur.toList.take ((xs.length + l.length) * L.m) = L.flat xs ++ L.flat l →
    OwnM L e B w' (.slice (some ⟨g, 0, none⟩) (xs.length + l.length) cap) (xs ++ l) := fun w' g cap cur h1 h2 h3 h4 h5 h6 =>
   .inr ⟨g, cap, cur, by rw [e1], h1, h2, by rw [e1]; exact h3, h4, h5, by rw [e1, h6, L.flat_append]⟩
  have run : ∀ (v' : Value) (w' : World), (Builtin.append_ #[t, t] ty #[v, .slice p l.length c]).run P w = .ok v' w' → OwnM L e B w' v' (xs ++ l) → w.grownBy w' v.ownBlock → (∀ g, v'.ownBlock = some g → v.ownBlock = some g ∨ w.heap.size ≤ g) →
    WL P n ops Q (⟨some d, .call ⟨.builtin .append, #[s, x], #[t, t]⟩, ty, pos, aft, none⟩ :: rest) f w := fun v' w' h2 h3 h4 h5 => by
   refine WL.run hd (w' := w') (v := v') (fun ρ hρ => ?_) (k v' w' h3 ((Below.refl _ _).grown h4 hB fun k hk => (hown.lt k hk).1) h4 h5)
   unfold execOp
   simp only [resolve, invoke, builtin, Sem.run_bind, Sem.run_pure, Result.andThen_ok, List.map_toArray, List.map_cons, List.map_nil, hρ _ _ hs, hρ _ _ hx, h2]
  cases hp : p with
  | none =>
   have hl : l = [] := by
    cases l with
    | nil => rfl
    | cons a r => have := hb.isp (by simp); rw [hp] at this; cases this
   have hc0 : c = 0 := (hc hl).resolve_right (fun h => h hp)
   subst hp; subst hl; subst hc0
   refine run v w ?_ (by rw [List.append_nil]; exact hown) ⟨rfl, rfl, rfl, Nat.le_refl _, fun _ _ _ => rfl⟩ fun g hg => .inl hg
   rcases hown with ⟨rfl, rfl⟩ | ⟨g, cap, cur, rfl, -, -, hnc, -⟩
   ·
    simp [Builtin.append_, run_underlying ht, sizeOf, typeInfo, hh, Builtin.lenOf, Builtin.firstCells]
   ·
    simp [Builtin.append_, run_underlying ht, sizeOf, typeInfo, hh, Builtin.lenOf, Builtin.firstCells, hnc, storeCells]
  | some a =>
   subst hp
   have hbytes : (xs.length + l.length) * i.bytes ≤ 140737488355328 := by rw [hby]; exact hbt
   rcases hown with ⟨rfl, rfl⟩ | ⟨g, cap, cur, rfl, hBg, hg, hnc, hcm, hcs, htk⟩
   ·
    obtain ⟨v', w', h2, h3, h4, -⟩ := run_append_own (P := P) (w := w) w.heap.size t ty e i z L.m by' ht hh hz hsize hby hzs L.pos (.slice none 0 0) 0 [] (World.ownsRow_nil w w.heap.size e L.m) a l.length c (L.flat l) hll
     (fun j y hj => hb.flat j y hj) (L.flat_one l) (by unfold maxLen; omega) (by simp only [List.length_nil] at hbytes; rw [hby] at hbytes; exact hbytes) (Nat.le_refl _)
    have h3' : OwnM L e w.heap.size w' v' ([] ++ l) := OwnM.of (by rw [List.nil_append]; simpa using h3)
    exact run v' w' h2 (h3'.base fun g hg => Nat.le_trans hB (h3'.lt g hg).1) h4 fun g hg => .inr (h3'.lt g hg).1
   ·
    by_cases hroom : xs.length + l.length ≤ cap
    ·
     have hfit : xs.length * i.size + (L.flat l).length ≤ cur.size := by
      rw [hsize, hll, ← Nat.add_mul]; exact Nat.le_trans (Nat.mul_le_mul_right _ hroom) hcs
     have h2 := run_append_room (P := P) w t ty e i ht hh g xs.length cap cur hg a l.length c (L.flat l) (by rw [hsize]; exact hll) (fun j y hj => hb.flat j y hj) (L.flat_one l) hroom hfit
     refine run _ _ h2 (fin _ g cap _ hBg (setRow_heap w g cur _ e _ hg) hroom hcm ?_ ?_) ⟨rfl, rfl, rfl, by simp, fun k _ hk => setRow_other w g k _ (fun e => hk (by simp [Value.ownBlock, e]))⟩ fun g hg => .inl hg
     ·
      simp only [List.size_toArray, List.length_append, List.length_take, List.length_drop, Array.length_toList]
      omega
     ·
      show (cur.toList.take (xs.length * i.size) ++ L.flat l ++ _).take _ = _
      rw [hsize, htk, List.take_append_of_le_length (by rw [List.length_append, hlx, hll, Nat.add_mul]; omega), List.take_of_length_le (by rw [List.length_append, hlx, hll, Nat.add_mul]; omega)]
    ·
     have holds : ∀ j u, (L.flat xs)[j]? = some u → w.cell? ((⟨g, 0, none⟩ : Addr).add j) = some u := fun j u hj => by
      have hj2 : j < (L.flat xs).length := by
       rcases Nat.lt_or_ge j (L.flat xs).length with h | h
       ·
        exact h
       ·
        rw [List.getElem?_eq_none h] at hj; cases hj
      rw [add_lit, Nat.zero_add, Lib.cell_of_heap hg j, ← Array.getElem?_toList]
      have h2 : (cur.toList.take (xs.length * L.m))[j]? = (L.flat xs)[j]? := by rw [htk]
      rw [List.getElem?_take, if_pos (by rw [← hlx]; exact hj2)] at h2
      rw [h2, hj]
     have hr2 := run_append_grow (P := P) w t ty e i z ht hh hz ⟨g, 0, none⟩ xs.length cap (L.flat xs) (by rw [hsize]; exact hlx) holds a l.length c (L.flat l) (by rw [hsize]; exact hll) (fun j y hj => hb.flat j y hj) (by omega) (by omega) (growslice_fits (by omega) hbytes)
     have hge := grownCap_ge w (xs.length + l.length) cap e
     have hcm2 : grownCap w (xs.length + l.length) cap e ≤ maxLen := grownCap_le_maxLen w (xs.length + l.length) cap e (by unfold maxLen; omega)
     refine run _ _ hr2 (fin _ w.heap.size _ _ hB (heap_alloc_new w.drew _) hge hcm2 ?_ ?_) ⟨rfl, rfl, rfl, by simp, fun k hk _ => (Upd.alloc w.drew _).other k (by show k ≠ w.heap.size; omega)⟩ fun g hg => .inr (by simp only [Value.ownBlock, Option.some.injEq] at hg; omega)
     ·
      simp only [Array.size_append, List.size_toArray, size_zeroCells, hzs, hlx, hll, ← Nat.add_mul]
      exact Nat.le_of_eq (congrArg (· * L.m) (by omega))
     ·
      simp only [Array.toList_append, List.append_assoc]
      rw [← List.append_assoc, List.take_append_of_le_length (by rw [List.length_append, hlx, hll, Nat.add_mul]; omega), List.take_of_length_le (by rw [List.length_append, hlx, hll, Nat.add_mul]; omega)]
theorem WL.appM {ops : Array Oper} {Q : Exit → Fr → World → Prop} {w : World} {rest : List Oper} {d ty : Nat} {pos : String} {aft : Array Edge} {s x : Operand} {t e : TypeId} {B : Nat} {z v : Value} {xs l : List α} {p : Option Addr} {c by' : Nat}
  (ht : P.underlying t = some (.slice e)) (hi : (P.info? e).map (fun i => (i.zero, i.size, i.bytes)) = some (some z, L.m, by')) (hby2 : Nat.ble by' 1000 = true) (hzs : z.cells.size = L.m)
  (hs : evo f s = some v) (hown : OwnM L e B w v xs) (hx : evo f x = some (.slice p l.length c)) (hb : RowM L w p l)
  (hn : xs.length + l.length ≤ 10000000) (hB : B ≤ w.heap.size) (hd : Nat.blt d n.n = true) (hc : l = [] → c = 0 ∨ p ≠ none)
  (k : ∀ v' w', OwnM L e B w' v' (xs ++ l) → Below B w w' → w.grownBy w' v.ownBlock → (∀ g, v'.ownBlock = some g → v.ownBlock = some g ∨ w.heap.size ≤ g) → WL P n ops Q rest ((d, v') :: f) w') :
  WL P n ops Q (⟨some d, .call ⟨.builtin .append, #[s, x], #[t, t]⟩, ty, pos, aft, none⟩ :: rest) f w := by
 refine WL.appMb ht hi hby2 hzs hs hown hx hb (by omega) ?_ hB hd hc k
 have h1 : by' ≤ 1000 := by simpa using hby2
 have : (xs.length + l.length) * by' ≤ (xs.length + l.length) * 1000 := Nat.mul_le_mul_left _ h1
 omega
/-- a struct of such a row is read -/
theorem Rd.ldS {t : TypeId} {x : Operand} {p : Option Addr} {l : List α} {w : World} {dd : TypeDesc} (hu : P.underlying t = some dd) (hdd : dd.isRow = true) (hi : (P.info? t).map (·.size) = some L.m) (hb : RowM L w p l) (k : Nat) (hk : k < l.length)
  (hx : evo f x = some (.pointer (some ((pA p).add (k * L.m))))) : Rd P (.load t x) f w (.agg (L.V l[k]).toArray) := fun ρ hρ d ty pos aft g => by
 have hl : (loadCells ((pA p).add (k * L.m)) (L.V l[k]).length).run P w = .ok (L.V l[k]).toArray w :=
  run_loadCells_list (P := P) w ((pA p).add (k * L.m)) (L.V l[k]) (fun j v hv => by
   have hj : j < L.m := by
    rcases Nat.lt_or_ge j L.m with h | h
    ·
     exact h
    ·
     rw [List.getElem?_eq_none (by rw [L.len]; exact h)] at hv; cases hv
   rw [add_add, hb.cells k hk j hj, hv])
 cases hq : P.info? t with
 | none => simp [hq] at hi
 | some i =>
  have hs : i.size = (L.V l[k]).length := by rw [L.len]; simpa [hq] using hi
  have hagg : (isAgg t).run P w = .ok true w := by
   unfold isAgg
   rw [Sem.run_bind, run_underlying hu w]
   cases dd <;> simp_all
  unfold execOp
  simp [hρ _ _ hx, Instr.loadAt, Instr.sureAddr, loadVar, Sem.run_bind, hagg, sizeOf, typeInfo, hq, hs, hl]
end
end Go.Proofs.YtjghbcjnplcleaaGreatDoor

namespace Go.Proofs.YtjghbcjnplcleaaGreatDoor
open Go.Proofs.Tryz
open Go.RowKit Go.WideShapes Go.ChangeShapes
/-- two results, the first of which lies in memory -/
theorem W.retc2 {P : Program} {fn : Func} {R : Ending → World → Prop} {f : Fr} {w : World} {t u : Tmp} {ty : TypeId} {b : Addr} {v x : Value} (hr : fn.results = #[.cell t ty, .tmp u])
  (ht : look f t = some (.pointer (some b))) (hv : (loadVar ty b).run P w = .ok v w) (hx : look f u = some x) (h : R (.returned (.tuple #[v, x])) w) : Post P fn R .ret f w := by
 unfold Post
 exact ⟨_, fun tmps hh => by
  have e1 := hh _ _ ht; have e2 := hh _ _ hx
  simp only [Array.getD_eq_getD_getElem?] at e1 e2
  simp [results, hr, e1, e2, asAddr, hv], h⟩
section
variable {P : Program} {n : Sh} {f : Fr}
/-- the address of an element of several cells -/
theorem Pure.ixm {tx e : TypeId} {x y : Operand} {p : Option Addr} {l c sz : Nat} {i : Int} {k : IntKind} (hu : P.underlying tx = some (.slice e)) (hs : ∀ w, (sizeOf e).run P w = .ok sz w) (hx : evo f x = some (.slice p l c))
  (hi : evo f y = some (.int k i)) (hp : p = some (pA p)) (j : Nat) (e' : i = j) (hj : j < l) : Pure P (.indexAddr tx x y) f (.pointer (some ((pA p).add (j * sz)))) :=
 Pure.ixa hu hs (by rw [hx]; rw [← hp]) hi j e' hj
end
end Go.Proofs.YtjghbcjnplcleaaGreatDoor

namespace Go.Proofs.YtjghbcjnplcleaaGreatDoor
open Go.Proofs.Tryz
open Go.RowKit
def parseP (l : List UInt8) : Int × Bool := if 64 < l.length then (0, false) else parseL l
theorem dec_Parse (l : List UInt8) (w : World) :
  Calls Tryz.prog 114 #[.string (bs l)] w fun e w' => e = .returned (.tuple #[.int .i64 (parseP l).1, .bool (parseP l).2]) ∧ Below w.heap.size w w' := by
 unfold parseP
 split
 ·
  exact (dec_Parse_long l w (by assumption)).mono fun e w' h => ⟨h.1, h.2 ▸ Below.refl _ _⟩
 ·
  exact dec_Parse_short l w (by omega)
end Go.Proofs.YtjghbcjnplcleaaGreatDoor

namespace Go.Proofs.YtjghbcjnplcleaaGreatDoor
open Go.Proofs.Tryz
open Go.RowKit
/-- an object without parts, as cells -/
def pobj (k n : Int) (s : List UInt8) : List Value := [.int .i64 k, .int .i64 n, .string (bs s), .slice none 0 0, .slice none 0 0, .slice none 0 0]
def pmDig (c : UInt8) : Bool := isDig c || c == 43 || c == 45
theorem trim_pm (l : List UInt8) : (decide (Lib.trimS l [43, 45, 48, 49, 50, 51, 52, 53, 54, 55, 56, 57] = [])) = l.all pmDig := by
 have : (fun x => ([43, 45, 48, 49, 50, 51, 52, 53, 54, 55, 56, 57] : List UInt8).contains x) = pmDig := by
  funext x
  have key : ∀ n : Fin 256, ([43, 45, 48, 49, 50, 51, 52, 53, 54, 55, 56, 57] : List UInt8).contains (UInt8.ofNat n.1) = pmDig (UInt8.ofNat n.1) := by decide +kernel
  have := key ⟨x.toNat, UInt8.toNat_lt x⟩
  simpa using this
 rw [Bool.eq_iff_iff, decide_eq_true_eq, trimS_nil_iff, this]
theorem idx_dot (l : List UInt8) : decide (0 ≤ Lib.indexByte l 46) = l.contains 46 := by
 exact (Lib.contains_iff_indexByte l 46).symm
/-- a word as a number: kind, number, is it one -/
def numR (s : List UInt8) : Int × Int × Bool :=
 if s.contains 46 then (3, (parseP s).1, (parseP s).2)
 else if (tokenL s).ok && decide ((tokenL s).e = 0) && decide ((tokenL s).kind = 1) && s.all pmDig then (2, (tokenL s).n, true) else (0, 0, false)
theorem plex_number (s : List UInt8) (w : World) (hl : s.length ≤ 100000000) :
  Calls Tryz.prog 78 #[.string (bs s)] w fun e w' => e = .returned (.tuple #[.agg (pobj (numR s).1 (numR s).2.1 []).toArray, .bool (numR s).2.2]) ∧ Below w.heap.size w w' := by
 obtain ⟨T, hT⟩ : ∃ T, T = tokenL s := ⟨_, rfl⟩
 have hTc : ∀ w, Calls Tryz.prog 115 #[.string (bs s)] w fun e w' => e = .returned T.val ∧ Below w.heap.size w w' := fun w => by rw [hT]; exact dec_Token _ w
 obtain ⟨D, hD⟩ : ∃ D, D = s.contains 46 := ⟨_, rfl⟩
 have hN : numR s = if D then (3, (parseP s).1, (parseP s).2) else if T.ok && decide (T.e = 0) && decide (T.kind = 1) && s.all pmDig then (2, T.n, true) else (0, 0, false) := by rw [hT, hD]; rfl
 refine W.enter func78 rfl ntmps78 (Nat.le_of_ble_eq_true rfl) ?_
 have hB0 := Below.refl (w.heap.size) w
 refine W.seq <| W.reg <| WL.alloc zeroValue31 rfl (fun b1 wb1 eb1 hkb1 hub1 hsb1 => ?_)
 have hB2 := Upd.below hB0 (by rw [eb1]; exact hB0.size) hub1
 have hgeb1 : w.heap.size ≤ b1 := by rw [eb1]; exact hB0.size
 refine WL.p (.as rfl) rfl <| WL.nil <| ?_
 refine W.seq <| W.seq <| W.reg <| WL.p (.mv rfl) rfl <| WL.c1 hb60 rfl rfl ((lib_ib s 46 _)) (fun w3 hw3 => ?_)
 obtain rfl := hw3
 refine WL.p (.bis (D) (.geq rfl rfl) (by rw [hD]; exact idx_dot s)) rfl <| WL.nil <| ?_
 refine W.cond rfl (fun h4 => ?_) (fun h4 => ?_)
 ·
  skip
  refine W.seq <| W.reg <| WL.p (.mv rfl) rfl <| WL.c1 hb114 rfl rfl ((dec_Parse s _)) (fun w5 hw5 => ?_)
  have hk6 := hkb1.below hw5 hkb1.lt
  have hB7 := btr hB2 hw5
  refine WL.p (.mv rfl) rfl <| WL.p (.ext rfl rfl) rfl <| WL.p (.ext rfl rfl) rfl <| WL.p (.as rfl) rfl <| WL.p (.as rfl) rfl <| WL.nil <| ?_
  refine W.seq <| W.reg <| WL.p (.mv rfl) rfl <| ?_
  refine WL.p (.buildL (ps := _) blt31 rfl rfl rfl (by simp only [put1, List.map, List.zip, List.zipWith, List.set] <;> rfl)) rfl ?_
  refine WL.p (.mv rfl) rfl <| WL.stL rfl rfl hk6 isz31 rfl rfl (fun w8 hkw8 huw8 hsw8 => ?_)
  have hB9 := Upd.below hB7 (by omega) huw8
  refine WL.p (.as rfl) rfl <| WL.nil <| ?_
  refine W.ret (W.retc2 rfl rfl (ldRow hkw8 underlying31 rfl isz31) rfl ?_)
  exact ⟨ret_val (by rw [hN, if_pos (by assumption)]; rfl), hB9⟩
 refine W.skip <| W.seq <| W.reg <| WL.p (.mv rfl) rfl <| WL.c1 hb115 rfl rfl ((hTc _)) (fun w10 hw10 => ?_)
 have hk11 := hkb1.below hw10 hkb1.lt
 have hB12 := btr hB2 hw10
 refine WL.p (.mv rfl) rfl <| WL.p (.ext rfl rfl) rfl <| WL.p (.ext rfl rfl) rfl <| WL.p (.ext rfl rfl) rfl <| WL.alloc zeroValue143 rfl (fun b13 wb13 eb13 hkb13 hub13 hsb13 => ?_)
 have hl15 : b1 < b13 := by rw [eb13]; exact hk11.lt
 have hk14 := hk11.upd hub13 (Nat.ne_of_lt hl15)
 have hB16 := Upd.below hB12 (by rw [eb13]; exact hB12.size) hub13
 have hgeb13 : w.heap.size ≤ b13 := by rw [eb13]; exact hB12.size
 refine WL.stL rfl rfl hkb13 isz143 rfl rfl (fun w17 hkw17 huw17 hsw17 => ?_)
 have hk18 := hk14.upd huw17 (by ((try simp only) <;> omega))
 have hB19 := Upd.below hB16 (by omega) huw17
 refine WL.p (.as rfl) rfl <| WL.p (.as rfl) rfl <| WL.nil <| ?_
 refine W.seq <| W.seq <| W.reg <| WL.p (.mv rfl) rfl <| WL.p (.not rfl) rfl <| WL.p (.mv rfl) rfl <| WL.gd rfl rfl rfl (fun g20 => ?_) (fun g20 => ?_)
 ·
  have g20' := (nF g20)
  refine WL.p (.mv rfl) rfl <| WL.gy rfl rfl rfl (by rw [(nF g20)] <;> rfl) <| WL.p (.neq rfl rfl) rfl <| WL.p (.pkF rfl (by rw [(nF g20)] <;> rfl) rfl) rfl <| WL.p (.mv rfl) rfl <| WL.gd rfl rfl rfl (fun g21 => ?_) (fun g21 => ?_)
  ·
   have g21' := ndF g21
   refine WL.p (.fa underlying143 rfl sizeOf3 (by decide) rfl) rfl <| WL.gy rfl rfl rfl g21 <| WL.r (Rd.ld (isAgg3 _) rfl hkw17 rfl) rfl <| WL.gy rfl rfl rfl g21 <| WL.p (.neq rfl rfl) rfl <| WL.p (.pkF rfl g21 rfl) rfl <| WL.p (.mv rfl) rfl <| WL.gd rfl rfl rfl (fun g22 => ?_) (fun g22 => ?_)
   ·
    have g22' := ndF g22
    refine WL.p (.mv rfl) rfl <| WL.gy rfl rfl rfl g22 <| WL.c1 hb116 rfl rfl ((lib_trim s [43, 45, 48, 49, 50, 51, 52, 53, 54, 55, 56, 57] _ hl (by decide) (by decide))) (fun w23 hw23 => ?_)
    have hk24 := hk18.below hw23 hk18.lt
    have hk25 := hkw17.below hw23 hkw17.lt
    have hB26 := btr hB19 hw23
    refine WL.gy rfl rfl rfl g22 <| WL.p (.bis (!s.all pmDig) (.nes rfl rfl) (by rw [trim_pm])) rfl <| WL.p (.pkF rfl g22 rfl) rfl <| WL.nil <| ?_
    refine W.cond rfl (fun h27 => ?_) (fun h27 => ?_)
    ·
     skip
     refine W.seq <| W.reg <| WL.p (.buildL (ps := _) blt31 rfl rfl rfl (by simp only [put1, List.map, List.zip, List.zipWith] <;> rfl)) rfl ?_
     refine WL.stL rfl rfl hk24 isz31 rfl rfl (fun w28 hkw28 huw28 hsw28 => ?_)
     have hB30 := Upd.below hB26 (by omega) huw28
     refine WL.p (.as rfl) rfl <| WL.nil <| ?_
     refine W.ret (W.retc2 rfl rfl (ldRow hkw28 underlying31 rfl isz31) rfl ?_)
     exact ⟨ret_val (by rw [hN, if_neg (bF (by assumption)), if_neg (by intro hx; simp only [Bool.and_eq_true, decide_eq_true_eq] at hx; obtain ⟨⟨⟨hx1, hx2⟩, hx3⟩, hx4⟩ := hx; clear hN hT hTc; simp_all)]; rfl), hB30⟩
    refine W.skip <| W.seq <| W.reg <| WL.p (.fa underlying143 rfl sizeOf3 (by decide) rfl) rfl <| WL.r (Rd.ld (isAgg3 _) rfl hk25 rfl) rfl <| ?_
    refine WL.p (.buildL (ps := _) blt31 rfl rfl rfl (by simp only [put1, List.map, List.zip, List.zipWith, List.set] <;> rfl)) rfl ?_
    refine WL.stL rfl rfl hk24 isz31 rfl rfl (fun w31 hkw31 huw31 hsw31 => ?_)
    have hB33 := Upd.below hB26 (by omega) huw31
    refine WL.p (.as rfl) rfl <| WL.nil <| ?_
    refine W.ret (W.retc2 rfl rfl (ldRow hkw31 underlying31 rfl isz31) rfl ?_)
    exact ⟨ret_val (by rw [hN, if_neg (bF (by assumption)), if_pos (by simp only [Bool.and_eq_true, decide_eq_true_eq]; clear hN hT hTc; simp_all)]; rfl), hB33⟩
   have g22' := ndT g22
   refine WL.gn rfl rfl rfl g22 <| WL.gn rfl rfl rfl g22 <| WL.p (.pkT rfl g22 rfl) rfl <| WL.nil <| ?_
   refine W.condT rfl rfl ?_
   refine W.seq <| W.reg <| WL.p (.buildL (ps := _) blt31 rfl rfl rfl (by simp only [put1, List.map, List.zip, List.zipWith] <;> rfl)) rfl ?_
   refine WL.stL rfl rfl hk18 isz31 rfl rfl (fun w34 hkw34 huw34 hsw34 => ?_)
   have hB36 := Upd.below hB19 (by omega) huw34
   refine WL.p (.as rfl) rfl <| WL.nil <| ?_
   refine W.ret (W.retc2 rfl rfl (ldRow hkw34 underlying31 rfl isz31) rfl ?_)
   exact ⟨ret_val (by rw [hN, if_neg (bF (by assumption)), if_neg (by intro hx; simp only [Bool.and_eq_true, decide_eq_true_eq] at hx; obtain ⟨⟨⟨hx1, hx2⟩, hx3⟩, hx4⟩ := hx; clear hN hT hTc; simp_all)]; rfl), hB36⟩
  have g21' := ndT g21
  refine WL.gn rfl rfl rfl g21 <| WL.gn rfl rfl rfl g21 <| WL.p (.pkT rfl g21 rfl) rfl <| WL.p (.mv rfl) rfl <| WL.gn rfl rfl rfl rfl <| WL.gn rfl rfl rfl rfl <| WL.gn rfl rfl rfl rfl <| WL.p (.pkT rfl rfl rfl) rfl <| WL.nil <| ?_
  refine W.condT rfl rfl ?_
  refine W.seq <| W.reg <| WL.p (.buildL (ps := _) blt31 rfl rfl rfl (by simp only [put1, List.map, List.zip, List.zipWith] <;> rfl)) rfl ?_
  refine WL.stL rfl rfl hk18 isz31 rfl rfl (fun w37 hkw37 huw37 hsw37 => ?_)
  have hB39 := Upd.below hB19 (by omega) huw37
  refine WL.p (.as rfl) rfl <| WL.nil <| ?_
  refine W.ret (W.retc2 rfl rfl (ldRow hkw37 underlying31 rfl isz31) rfl ?_)
  exact ⟨ret_val (by rw [hN, if_neg (bF (by assumption)), if_neg (by intro hx; simp only [Bool.and_eq_true, decide_eq_true_eq] at hx; obtain ⟨⟨⟨hx1, hx2⟩, hx3⟩, hx4⟩ := hx; clear hN hT hTc; simp_all)]; rfl), hB39⟩
 have g20' := (nT g20)
 refine WL.gn rfl rfl rfl (by rw [(nT g20)] <;> rfl) <| WL.p (.pkT rfl (by rw [(nT g20)] <;> rfl) rfl) rfl <| WL.p (.mv rfl) rfl <| WL.gn rfl rfl rfl rfl <| WL.gn rfl rfl rfl rfl <| WL.gn rfl rfl rfl rfl <| WL.p (.pkT rfl rfl rfl) rfl <| WL.p (.mv rfl) rfl <| WL.gn rfl rfl rfl rfl <| WL.gn rfl rfl rfl rfl <| WL.gn rfl rfl rfl rfl <| WL.p (.pkT rfl rfl rfl) rfl <| WL.nil <| ?_
 refine W.condT rfl rfl ?_
 refine W.seq <| W.reg <| WL.p (.buildL (ps := _) blt31 rfl rfl rfl (by simp only [put1, List.map, List.zip, List.zipWith] <;> rfl)) rfl ?_
 refine WL.stL rfl rfl hk18 isz31 rfl rfl (fun w40 hkw40 huw40 hsw40 => ?_)
 have hB42 := Upd.below hB19 (by omega) huw40
 refine WL.p (.as rfl) rfl <| WL.nil <| ?_
 refine W.ret (W.retc2 rfl rfl (ldRow hkw40 underlying31 rfl isz31) rfl ?_)
 exact ⟨ret_val (by rw [hN, if_neg (bF (by assumption)), if_neg (by intro hx; simp only [Bool.and_eq_true, decide_eq_true_eq] at hx; obtain ⟨⟨⟨hx1, hx2⟩, hx3⟩, hx4⟩ := hx; clear hN hT hTc; simp_all)]; rfl), hB42⟩
/-- a reader in memory: block r, the bytes l, at place t -/
def PRd (w : World) (r : Nat) (p : Option Addr) (l : List UInt8) (c t : Nat) (refs : Bool) : Prop := Blk w r #[.slice p l.length c, .int .i64 (t : Int), .bool refs] 63 ∧ BytesAt w p l
theorem skip_q (p : Option Addr) (l : List UInt8) (c a : Nat) (w : World) (hb : BytesAt w p l) (ha : a ≤ l.length) (hl : l.length ≤ 100000000) (d : Nat) (hd : d = skipAt false l a) (m : Nat) :
  Calls Tryz.prog 13 #[.slice p l.length c, .int .i64 (a : Int)] (w.drewN m) fun e w' => e = .returned (.int .i64 (d : Int)) ∧ ∃ k, w' = w.drewN k :=
 (plex_Skip p l c a (w.drewN m) (hb.drewN m) hl).mono fun e w' h => ⟨by rw [h.1, insA_nat l a ha, hd], m, h.2.symm⟩
theorem word_q (p : Option Addr) (l : List UInt8) (c a : Nat) (w : World) (hb : BytesAt w p l) (hc : l.length ≤ c) (ha : a ≤ l.length) (hl : l.length ≤ 100000000) (m : Nat) :
  Calls Tryz.prog 11 #[.slice p l.length c, .int .i64 (a : Int)] (w.drewN m) fun e w' => e = .returned (.tuple #[.string (bs (wordL l a)), .int .i64 (wordAt l a : Int)]) ∧ ∃ k, w' = w.drewN k :=
 (plex_Word p l c a (w.drewN m) (hb.drewN m) hc hl).mono fun e w' h => ⟨by rw [h.1, insA_nat l a ha], m, h.2.symm⟩
/-- a reference that begins with the word s: its number, and the place behind it -/
def refR (refs : Bool) (l : List UInt8) (s : List UInt8) (t : Nat) : Option (Int × Nat) :=
 if refs && (wholeV s 4096).2 && decide (1 ≤ (wholeV s 4096).1) then
  (if wordL l (skipAt false l t) = [48] then
   (if wordL l (skipAt false l (wordAt l (skipAt false l t))) = [82] then some ((wholeV s 4096).1, wordAt l (skipAt false l (wordAt l (skipAt false l t)))) else none)
  else none)
 else none
def refK (o : Option (Int × Nat)) : Int × Int := match o with | some (n, _) => (8, n) | none => (0, 0)
def refV (o : Option (Int × Nat)) : Value := .tuple #[.agg (pobj (refK o).1 (refK o).2 []).toArray, .bool o.isSome]
def refT (o : Option (Int × Nat)) (t : Nat) : Nat := match o with | some (_, b) => b | none => t
theorem plex_ref (r : Nat) (p : Option Addr) (l : List UInt8) (c t : Nat) (refs : Bool) (s : List UInt8) (w : World) (h : PRd w r p l c t refs) (hne : 0 < l.length → (pA p).block ≠ r) (hc : l.length ≤ c) (hl : l.length ≤ 100000000) (ht : t ≤ l.length) (hs : s.length ≤ 100000000) :
  Calls Tryz.prog 77 #[.pointer (some ⟨r, 0, none⟩), .string (bs s)] w fun e w' => e = .returned (refV (refR refs l s t)) ∧ PRd w' r p l c (refT (refR refs l s t) t) refs ∧ Touch w.heap.size r w w' := by
 have hr := h.1
 have hb := h.2
 obtain ⟨a, ha⟩ : ∃ a, a = skipAt false l t := ⟨_, rfl⟩
 obtain ⟨b, hbb⟩ : ∃ b, b = skipAt false l (wordAt l a) := ⟨_, rfl⟩
 have hal : a ≤ l.length := by rw [ha]; exact skipAt_le _ _ _
 have hbl : b ≤ l.length := by rw [hbb]; exact skipAt_le _ _ _
 have hwa := wordAt_le l a hal
 have hwb := wordAt_le l b hbl
 have hR : refR refs l s t = if refs && (wholeV s 4096).2 && decide (1 ≤ (wholeV s 4096).1) then (if wordL l a = [48] then (if wordL l b = [82] then some ((wholeV s 4096).1, wordAt l b) else none) else none) else none := by rw [hbb, ha]; rfl
 obtain ⟨N, hN⟩ : ∃ N, N = wholeV s 4096 := ⟨_, rfl⟩
 have hW : ∀ w, Calls Tryz.prog 113 #[.string (bs s), .int .i64 4096] w fun e w' => e = .returned (.tuple #[.int .i64 N.1, .bool N.2]) ∧ Below w.heap.size w w' := fun w => by rw [hN]; exact plex_whole s 4096 w hs
 rw [← hN] at hR
 generalize refR refs l s t = R at hR ⊢
 refine W.enter func77 rfl ntmps77 (Nat.le_of_ble_eq_true rfl) ?_
 have hB0 := Touch.refl (w.heap.size) r w
 refine W.seq <| W.reg <| WL.alloc zeroValue31 rfl (fun b1 wb1 eb1 hkb1 hub1 hsb1 => ?_)
 have hl3 : r < b1 := by rw [eb1]; exact hr.lt
 have hk2 := hr.upd hub1 (Nat.ne_of_lt hl3)
 have hvl5 := fun h0 => eb1 ▸ hb.lt h0
 have hv4 := BytesAt.upd hb hub1 (fun h0 => Nat.ne_of_lt (hvl5 h0))
 have hgeb1 : w.heap.size ≤ b1 := by rw [eb1]; exact hB0.size
 have hB6 := Touch.trans hB0 (Touch.of_new hub1 hgeb1)
 refine WL.p (.as rfl) rfl <| WL.nil <| ?_
 refine W.seq ?_
 have hrB : r < b1 := by have := hr.lt; omega
 refine W.reg <| WL.p (.mv rfl) rfl <| WL.c1 hb113 rfl rfl ((hW _)) (fun w7 hw7 => ?_)
 have hk8 := hk2.below hw7 hk2.lt
 have hk9 := hkb1.below hw7 hkb1.lt
 have hv10 := BytesAt.below hv4 hw7 (fun h0 => hv4.lt h0)
 have hB11 := Touch.trans hB6 (Touch.mono (Touch.of_below hw7) hB6.size)
 refine WL.p (.mv rfl) rfl <| WL.p (.ext rfl rfl) rfl <| WL.p (.ext rfl rfl) rfl <| WL.p (.as rfl) rfl <| WL.p (.as rfl) rfl <| WL.nil <| ?_
 refine W.seq ?_
 refine W.cutB 28 (!(refs && N.2 && decide (1 ≤ N.1))) ?_ ?_
 ·
  skip
  refine W.reg <| WL.p (.mv rfl) rfl <| WL.p (.nck rfl) rfl <| WL.p (.fa underlying63 rfl sizeOf4 (by decide) rfl) rfl <| WL.r (Rd.ld (isAgg4 _) rfl hk8 rfl) rfl <| WL.p (.not rfl) rfl <| WL.p (.mv rfl) rfl <| WL.gd rfl rfl rfl (fun g12 => ?_) (fun g12 => ?_)
  ·
   have g12' := (nF g12)
   refine WL.p (.mv rfl) rfl <| WL.gy rfl rfl rfl (by rw [(nF g12)] <;> rfl) <| WL.p (.not rfl) rfl <| WL.p (.pkF rfl (by rw [(nF g12)] <;> rfl) rfl) rfl <| WL.p (.mv rfl) rfl <| WL.gd rfl rfl rfl (fun g13 => ?_) (fun g13 => ?_)
   ·
    have g13' := (nF g13)
    refine WL.p (.mv rfl) rfl <| WL.gy rfl rfl rfl (by rw [(nF g13)] <;> rfl) <| WL.p (.lss rfl rfl) rfl <| WL.p (.pkF rfl (by rw [(nF g13)] <;> rfl) rfl) rfl <| WL.nil <| ?_
    exact ⟨⟨lk_b rfl (by cases refs <;> cases h2 : N.2 <;> by_cases h3 : 1 ≤ N.1 <;> simp_all <;> omega), by repeat (first | exact Le.refl _ | refine Le.cons rfl ?_)⟩, rfl⟩
   have g13' := (nT g13)
   refine WL.gn rfl rfl rfl (by rw [(nT g13)] <;> rfl) <| WL.p (.pkT rfl (by rw [(nT g13)] <;> rfl) rfl) rfl <| WL.nil <| ?_
   exact ⟨⟨lk_b rfl (by cases refs <;> cases h2 : N.2 <;> by_cases h3 : 1 ≤ N.1 <;> simp_all <;> omega), by repeat (first | exact Le.refl _ | refine Le.cons rfl ?_)⟩, rfl⟩
  have g12' := (nT g12)
  refine WL.gn rfl rfl rfl (by rw [(nT g12)] <;> rfl) <| WL.p (.pkT rfl (by rw [(nT g12)] <;> rfl) rfl) rfl <| WL.p (.mv rfl) rfl <| WL.gn rfl rfl rfl rfl <| WL.gn rfl rfl rfl rfl <| WL.p (.pkT rfl rfl rfl) rfl <| WL.nil <| ?_
  exact ⟨⟨lk_b rfl (by cases refs <;> cases h2 : N.2 <;> by_cases h3 : 1 ≤ N.1 <;> simp_all <;> omega), by repeat (first | exact Le.refl _ | refine Le.cons rfl ?_)⟩, rfl⟩
 refine W.cond rfl (fun h14 => ?_) (fun h14 => ?_)
 ·
  skip
  refine W.seq <| W.reg <| WL.p (.buildL (ps := _) blt31 rfl rfl rfl (by simp only [put1, List.map, List.zip, List.zipWith] <;> rfl)) rfl ?_
  refine WL.stL rfl rfl hk9 isz31 rfl rfl (fun w15 hkw15 huw15 hsw15 => ?_)
  have hk16 := hk8.upd huw15 (by ((try simp only) <;> omega))
  have hv17 := BytesAt.upd hv10 huw15 (fun h0 => Nat.ne_of_lt (hvl5 h0))
  have hB18 := Touch.trans hB11 (Touch.of_new huw15 (by omega))
  refine WL.p (.as rfl) rfl <| WL.nil <| ?_
  refine W.ret (W.retc2 rfl rfl (ldRow hkw15 underlying31 rfl isz31) rfl ?_)
  exact ⟨ret_val (by rw [hR, if_neg (bF (nT (by assumption)))]; rfl), by rw [hR, if_neg (bF (nT (by assumption)))]; exact ⟨hk16, hv17⟩, hB18⟩
 refine W.skip <| W.seq <| W.regQ mixed (by kernel_rfl) ?_
 refine WQ.p (.mv rfl) rfl <| WQ.p (.nck rfl) rfl <| WQ.p (.fa underlying63 rfl sizeOf22 (by decide) rfl) rfl <| WQ.r (fun m => Rd.ld (isAgg22 _) rfl hk8 rfl) rfl <| WQ.p (.mv rfl) rfl <| WQ.p (.nck rfl) rfl <| WQ.p (.fa underlying63 rfl sizeOf22 (by decide) rfl) rfl <| WQ.r (fun m => Rd.ld (isAgg22 _) rfl hk8 rfl) rfl <| WQ.p (.mv rfl) rfl <| WQ.p (.nck rfl) rfl <| WQ.p (.fa underlying63 rfl sizeOf3 (by decide) rfl) rfl <| WQ.r (fun m => Rd.ld (isAgg3 _) rfl hk8 rfl) rfl <| WQ.c1 hb13 rfl rfl (fun m => (skip_q p l c t _ hv10 ht hl a ha m)) <| WQ.c1 hb11 rfl rfl (fun m => (word_q p l c a _ hv10 hc hal hl m)) <| WQ.p (.mv rfl) rfl <| WQ.p (.ext rfl rfl) rfl <| WQ.p (.ext rfl rfl) rfl <| WQ.p (.as rfl) rfl <| WQ.p (.as rfl) rfl <| WQ.nil (fun w19 dw19 => ?_)
 have hk20 := hk8.drew dw19
 have hk21 := hk9.drew dw19
 have hv22 := hv10.drew dw19
 have hB23 := Touch.trans hB11 (Touch.of_drew dw19)
 refine W.seq <| W.seq <| W.reg <| WL.p (.mv rfl) rfl <| WL.p (.nes rfl rfl) rfl <| WL.nil <| ?_
 refine W.cond rfl (fun h24 => ?_) (fun h24 => ?_)
 ·
  have h24' := ndT h24
  refine W.seq <| W.reg <| WL.p (.buildL (ps := _) blt31 rfl rfl rfl (by simp only [put1, List.map, List.zip, List.zipWith] <;> rfl)) rfl ?_
  refine WL.stL rfl rfl hk21 isz31 rfl rfl (fun w25 hkw25 huw25 hsw25 => ?_)
  have hk26 := hk20.upd huw25 (by ((try simp only) <;> omega))
  have hv27 := BytesAt.upd hv22 huw25 (fun h0 => Nat.ne_of_lt (hvl5 h0))
  have hB28 := Touch.trans hB23 (Touch.of_new huw25 (by omega))
  refine WL.p (.as rfl) rfl <| WL.nil <| ?_
  refine W.ret (W.retc2 rfl rfl (ldRow hkw25 underlying31 rfl isz31) rfl ?_)
  exact ⟨ret_val (by rw [hR, if_pos (nF (by assumption)), if_neg (by assumption)]; rfl), by rw [hR, if_pos (nF (by assumption)), if_neg (by assumption)]; exact ⟨hk26, hv27⟩, hB28⟩
 have h24' := ndF h24
 refine W.skip <| W.seq <| W.regQ mixed (by kernel_rfl) ?_
 refine WQ.p (.mv rfl) rfl <| WQ.p (.nck rfl) rfl <| WQ.p (.fa underlying63 rfl sizeOf22 (by decide) rfl) rfl <| WQ.r (fun m => Rd.ld (isAgg22 _) rfl hk20 rfl) rfl <| WQ.p (.mv rfl) rfl <| WQ.p (.nck rfl) rfl <| WQ.p (.fa underlying63 rfl sizeOf22 (by decide) rfl) rfl <| WQ.r (fun m => Rd.ld (isAgg22 _) rfl hk20 rfl) rfl <| WQ.p (.mv rfl) rfl <| WQ.c1 hb13 rfl rfl (fun m => (skip_q p l c (wordAt l a) _ hv22 hwa.2 hl b hbb m)) <| WQ.c1 hb11 rfl rfl (fun m => (word_q p l c b _ hv22 hc hbl hl m)) <| WQ.p (.mv rfl) rfl <| WQ.p (.ext rfl rfl) rfl <| WQ.p (.ext rfl rfl) rfl <| WQ.p (.as rfl) rfl <| WQ.p (.as rfl) rfl <| WQ.nil (fun w29 dw29 => ?_)
 have hk30 := hk20.drew dw29
 have hk31 := hk21.drew dw29
 have hv32 := hv22.drew dw29
 have hB33 := Touch.trans hB23 (Touch.of_drew dw29)
 refine W.seq <| W.seq <| W.reg <| WL.p (.mv rfl) rfl <| WL.p (.nes rfl rfl) rfl <| WL.nil <| ?_
 refine W.cond rfl (fun h34 => ?_) (fun h34 => ?_)
 ·
  have h34' := ndT h34
  refine W.seq <| W.reg <| WL.p (.buildL (ps := _) blt31 rfl rfl rfl (by simp only [put1, List.map, List.zip, List.zipWith] <;> rfl)) rfl ?_
  refine WL.stL rfl rfl hk31 isz31 rfl rfl (fun w35 hkw35 huw35 hsw35 => ?_)
  have hk36 := hk30.upd huw35 (by ((try simp only) <;> omega))
  have hv37 := BytesAt.upd hv32 huw35 (fun h0 => Nat.ne_of_lt (hvl5 h0))
  have hB38 := Touch.trans hB33 (Touch.of_new huw35 (by omega))
  refine WL.p (.as rfl) rfl <| WL.nil <| ?_
  refine W.ret (W.retc2 rfl rfl (ldRow hkw35 underlying31 rfl isz31) rfl ?_)
  exact ⟨ret_val (by rw [hR, if_pos (nF (by assumption)), if_pos (by assumption), if_neg (by assumption)]; rfl), by rw [hR, if_pos (nF (by assumption)), if_pos (by assumption), if_neg (by assumption)]; exact ⟨hk36, hv37⟩, hB38⟩
 have h34' := ndF h34
 refine W.skip <| W.seq <| W.reg <| WL.p (.mv rfl) rfl <| WL.p (.iis ((wordAt l b : Int)) (.mv rfl) (by rfl)) rfl <| WL.p (.nck rfl) rfl <| WL.p (.fa underlying63 rfl sizeOf3 (by decide) rfl) rfl <| WL.st sizeOf3 rfl rfl rfl hk30 (by first | decide | exact Nat.le_of_ble_eq_true rfl) (fun w39 hkw39 huw39 hsw39 => ?_)
 have hkw39 : Blk w39 r _ _ := hkw39
 have huw39 : Upd r _ _ := huw39
 have hk40 := hk31.upd huw39 (by ((try simp only) <;> omega))
 have hv41 := BytesAt.upd hv32 huw39 hne
 have hB42 := Touch.trans hB33 (Touch.of_upd huw39)
 refine WL.nil <| ?_
 refine W.seq <| W.reg <| WL.p (.mv rfl) rfl <| ?_
 refine WL.p (.buildL (ps := _) blt31 rfl rfl rfl (by simp only [put1, List.map, List.zip, List.zipWith, List.set] <;> rfl)) rfl ?_
 refine WL.stL rfl rfl hk40 isz31 rfl rfl (fun w43 hkw43 huw43 hsw43 => ?_)
 have hk44 := hkw39.upd huw43 (by ((try simp only) <;> omega))
 have hv45 := BytesAt.upd hv41 huw43 (fun h0 => Nat.ne_of_lt (hvl5 h0))
 have hB46 := Touch.trans hB42 (Touch.of_new huw43 (by omega))
 refine WL.p (.as rfl) rfl <| WL.nil <| ?_
 refine W.ret (W.retc2 rfl rfl (ldRow hkw43 underlying31 rfl isz31) rfl ?_)
 exact ⟨ret_val (by rw [hR, if_pos (nF (by assumption)), if_pos (by assumption), if_pos (by assumption)]; rfl), by rw [hR, if_pos (nF (by assumption)), if_pos (by assumption), if_pos (by assumption)]; exact ⟨hk44, hv45⟩, hB46⟩
/-- what a word is -/
structure WR where
 kind : Int
 n : Int
 word : List UInt8
 ok : Bool
 np : Nat
def plexW (refs : Bool) (l : List UInt8) (t : Nat) : WR :=
 if wordL l t = [110, 117, 108, 108] then ⟨0, 0, wordL l t, true, wordAt l t⟩
 else if wordL l t = [116, 114, 117, 101] then ⟨1, 1, wordL l t, true, wordAt l t⟩
 else if wordL l t = [102, 97, 108, 115, 101] then ⟨1, 0, wordL l t, true, wordAt l t⟩
 else if (refR refs l (wordL l t) (wordAt l t)).isSome then ⟨(refK (refR refs l (wordL l t) (wordAt l t))).1, (refK (refR refs l (wordL l t) (wordAt l t))).2, wordL l t, true, refT (refR refs l (wordL l t) (wordAt l t)) (wordAt l t)⟩
 else if (numR (wordL l t)).2.2 then ⟨(numR (wordL l t)).1, (numR (wordL l t)).2.1, wordL l t, true, wordAt l t⟩
 else ⟨0, 0, wordL l t, false, wordAt l t⟩
def WR.val (x : WR) : Value := .tuple #[.agg (pobj x.kind x.n []).toArray, .string (bs x.word), .bool x.ok]
theorem wordL_len (l : List UInt8) (t : Nat) : (wordL l t).length ≤ l.length := by unfold wordL; rw [List.length_take, List.length_drop]; omega
theorem refT_none {o : Option (Int × Nat)} {t : Nat} (h : o.isSome = false) : refT o t = t := by cases o with | none => rfl | some x => cases h
theorem plex_word (r : Nat) (p : Option Addr) (l : List UInt8) (c t : Nat) (refs : Bool) (w : World) (h : PRd w r p l c t refs) (hne : 0 < l.length → (pA p).block ≠ r) (hc : l.length ≤ c) (hl : l.length ≤ 100000000) (ht : t ≤ l.length) :
  Calls Tryz.prog 48 #[.pointer (some ⟨r, 0, none⟩)] w fun e w' => e = .returned (plexW refs l t).val ∧ PRd w' r p l c (plexW refs l t).np refs ∧ Touch w.heap.size r w w' := by
 have hr := h.1
 have hb := h.2
 have hX : ∃ X, X = plexW refs l t := ⟨_, rfl⟩
 obtain ⟨X, hX⟩ := hX
 rw [← hX]
 unfold plexW at hX
 have hwt := wordAt_le l t ht
 have hsl := wordL_len l t
 have hWq : ∀ w1, BytesAt w1 p l → ∀ m, Calls Tryz.prog 11 #[.slice p l.length c, .int .i64 (t : Int)] (w1.drewN m) fun e w' => e = .returned (.tuple #[.string (bs (wordL l t)), .int .i64 (wordAt l t : Int)]) ∧ ∃ k, w' = w1.drewN k := fun w1 h1 m => word_q p l c t w1 h1 hc ht hl m
 generalize wordL l t = s at hX hsl hWq
 generalize wordAt l t = t1 at hX hwt hWq
 refine W.enter func48 rfl ntmps48 (Nat.le_of_ble_eq_true rfl) ?_
 have hB0 := Touch.refl (w.heap.size) r w
 refine W.seq <| W.reg <| WL.alloc zeroValue31 rfl (fun b1 wb1 eb1 hkb1 hub1 hsb1 => ?_)
 have hl3 : r < b1 := by rw [eb1]; exact hr.lt
 have hk2 := hr.upd hub1 (Nat.ne_of_lt hl3)
 have hvl5 := fun h0 => eb1 ▸ hb.lt h0
 have hv4 := BytesAt.upd hb hub1 (fun h0 => Nat.ne_of_lt (hvl5 h0))
 have hgeb1 : w.heap.size ≤ b1 := by rw [eb1]; exact hB0.size
 have hB6 := Touch.trans hB0 (Touch.of_new hub1 hgeb1)
 refine WL.p (.as rfl) rfl <| WL.p (.as rfl) rfl <| WL.nil <| ?_
 refine W.seq ?_
 have hrB : r < b1 := by have := hr.lt; omega
 refine W.regQ mixed (by kernel_rfl) ?_
 refine WQ.p (.mv rfl) rfl <| WQ.p (.nck rfl) rfl <| WQ.p (.fa underlying63 rfl sizeOf22 (by decide) rfl) rfl <| WQ.r (fun m => Rd.ld (isAgg22 _) rfl hk2 rfl) rfl <| WQ.p (.mv rfl) rfl <| WQ.p (.nck rfl) rfl <| WQ.p (.fa underlying63 rfl sizeOf3 (by decide) rfl) rfl <| WQ.r (fun m => Rd.ld (isAgg3 _) rfl hk2 rfl) rfl <| WQ.c1 hb11 rfl rfl (fun m => (hWq _ hv4 m)) <| WQ.p (.mv rfl) rfl <| WQ.p (.ext rfl rfl) rfl <| WQ.p (.ext rfl rfl) rfl <| WQ.p (.as rfl) rfl <| WQ.p (.as rfl) rfl <| WQ.nil (fun w7 dw7 => ?_)
 have hk8 := hk2.drew dw7
 have hk9 := hkb1.drew dw7
 have hv10 := hv4.drew dw7
 have hB11 := Touch.trans hB6 (Touch.of_drew dw7)
 refine W.seq <| W.reg <| WL.p (.mv rfl) rfl <| WL.p (.mv rfl) rfl <| WL.p (.nck rfl) rfl <| WL.p (.fa underlying63 rfl sizeOf3 (by decide) rfl) rfl <| WL.st sizeOf3 rfl rfl rfl hk8 (by first | decide | exact Nat.le_of_ble_eq_true rfl) (fun w12 hkw12 huw12 hsw12 => ?_)
 have hkw12 : Blk w12 r _ _ := hkw12
 have huw12 : Upd r _ _ := huw12
 have hk13 := hk9.upd huw12 (by ((try simp only) <;> omega))
 have hv14 := BytesAt.upd hv10 huw12 hne
 have hB15 := Touch.trans hB11 (Touch.of_upd huw12)
 refine WL.nil <| ?_
 refine W.seq <| W.seq <| W.reg <| WL.p (.mv rfl) rfl <| WL.nil <| ?_
 refine W.block <| W.seq <| W.reg <| WL.p (.eqs rfl rfl) rfl <| WL.p (.as rfl) rfl <| WL.nil <| ?_
 refine W.cond rfl (fun h16 => ?_) (fun h16 => ?_)
 ·
  have h16' := of_decide_eq_true h16
  refine W.seq <| W.reg <| WL.p (.buildL (ps := _) blt31 rfl rfl rfl (by simp only [put1, List.map, List.zip, List.zipWith] <;> rfl)) rfl ?_
  refine WL.p (.mv rfl) rfl <| WL.stL rfl rfl hk13 isz31 rfl rfl (fun w17 hkw17 huw17 hsw17 => ?_)
  have hk18 := hkw12.upd huw17 (by ((try simp only) <;> omega))
  have hv19 := BytesAt.upd hv14 huw17 (fun h0 => Nat.ne_of_lt (hvl5 h0))
  have hB20 := Touch.trans hB15 (Touch.of_new huw17 (by omega))
  refine WL.p (.as rfl) rfl <| WL.p (.as rfl) rfl <| WL.nil <| ?_
  refine W.ret (W.retc3 rfl rfl (ldRow hkw17 underlying31 rfl isz31) rfl rfl ?_)
  (rw [if_pos (by assumption)] at hX; subst hX; exact ⟨rfl, ⟨hk18, hv19⟩, hB20⟩)
 have h16' := of_decide_eq_false h16
 refine W.seq <| W.reg <| WL.p (.eqs rfl rfl) rfl <| WL.p (.as rfl) rfl <| WL.nil <| ?_
 refine W.cond rfl (fun h21 => ?_) (fun h21 => ?_)
 ·
  have h21' := of_decide_eq_true h21
  refine W.seq <| W.reg <| WL.p (.buildL (ps := _) blt31 rfl rfl rfl (by simp only [put1, List.map, List.zip, List.zipWith, List.set] <;> rfl)) rfl ?_
  refine WL.p (.mv rfl) rfl <| WL.stL rfl rfl hk13 isz31 rfl rfl (fun w22 hkw22 huw22 hsw22 => ?_)
  have hk23 := hkw12.upd huw22 (by ((try simp only) <;> omega))
  have hv24 := BytesAt.upd hv14 huw22 (fun h0 => Nat.ne_of_lt (hvl5 h0))
  have hB25 := Touch.trans hB15 (Touch.of_new huw22 (by omega))
  refine WL.p (.as rfl) rfl <| WL.p (.as rfl) rfl <| WL.nil <| ?_
  refine W.ret (W.retc3 rfl rfl (ldRow hkw22 underlying31 rfl isz31) rfl rfl ?_)
  (rw [if_neg (by assumption), if_pos (by assumption)] at hX; subst hX; exact ⟨rfl, ⟨hk23, hv24⟩, hB25⟩)
 have h21' := of_decide_eq_false h21
 refine W.seq <| W.reg <| WL.p (.eqs rfl rfl) rfl <| WL.p (.as rfl) rfl <| WL.nil <| ?_
 refine W.cond rfl (fun h26 => ?_) (fun h26 => ?_)
 ·
  have h26' := of_decide_eq_true h26
  refine W.seq <| W.reg <| WL.p (.buildL (ps := _) blt31 rfl rfl rfl (by simp only [put1, List.map, List.zip, List.zipWith, List.set] <;> rfl)) rfl ?_
  refine WL.p (.mv rfl) rfl <| WL.stL rfl rfl hk13 isz31 rfl rfl (fun w27 hkw27 huw27 hsw27 => ?_)
  have hk28 := hkw12.upd huw27 (by ((try simp only) <;> omega))
  have hv29 := BytesAt.upd hv14 huw27 (fun h0 => Nat.ne_of_lt (hvl5 h0))
  have hB30 := Touch.trans hB15 (Touch.of_new huw27 (by omega))
  refine WL.p (.as rfl) rfl <| WL.p (.as rfl) rfl <| WL.nil <| ?_
  refine W.ret (W.retc3 rfl rfl (ldRow hkw27 underlying31 rfl isz31) rfl rfl ?_)
  (rw [if_neg (by assumption), if_neg (by assumption), if_pos (by assumption)] at hX; subst hX; exact ⟨rfl, ⟨hk28, hv29⟩, hB30⟩)
 have h26' := of_decide_eq_false h26
 refine W.skip <| W.seq <| W.seq <| W.reg <| WL.p (.mv rfl) rfl <| WL.p (.mv rfl) rfl <| WL.c1 hb77 rfl rfl ((plex_ref r p l c t1 refs s _ ⟨hkw12, hv14⟩ hne hc hl (by omega) (by omega))) (fun w31 hw31 => ?_)
 have hk32 := hw31.1.1
 have hk33 := Blk.touch hk13 hw31.2 hk13.lt (by omega)
 have hv34 := hw31.1.2
 have hB35 := Touch.trans hB15 (Touch.mono hw31.2 hB15.size)
 refine WL.p (.mv rfl) rfl <| WL.p (.ext rfl rfl) rfl <| WL.p (.ext rfl rfl) rfl <| WL.alloc zeroValue31 rfl (fun b36 wb36 eb36 hkb36 hub36 hsb36 => ?_)
 have hl38 : r < b36 := by rw [eb36]; exact hk32.lt
 have hk37 := hk32.upd hub36 (Nat.ne_of_lt hl38)
 have hl40 : b1 < b36 := by rw [eb36]; exact hk33.lt
 have hk39 := hk33.upd hub36 (Nat.ne_of_lt hl40)
 have hvl42 := fun h0 => eb36 ▸ hv34.lt h0
 have hv41 := BytesAt.upd hv34 hub36 (fun h0 => Nat.ne_of_lt (hvl42 h0))
 have hgeb36 : w.heap.size ≤ b36 := by rw [eb36]; exact hB35.size
 have hB43 := Touch.trans hB35 (Touch.of_new hub36 hgeb36)
 refine WL.stL rfl rfl hkb36 isz31 rfl rfl (fun w44 hkw44 huw44 hsw44 => ?_)
 have hk45 := hk37.upd huw44 (by ((try simp only) <;> omega))
 have hk46 := hk39.upd huw44 (by ((try simp only) <;> omega))
 have hv47 := BytesAt.upd hv41 huw44 (fun h0 => Nat.ne_of_lt (hvl42 h0))
 have hB48 := Touch.trans hB43 (Touch.of_new huw44 (by omega))
 refine WL.p (.as rfl) rfl <| WL.nil <| ?_
 refine W.seq <| W.reg <| WL.p (.mv rfl) rfl <| WL.nil <| ?_
 refine W.cond rfl (fun h49 => ?_) (fun h49 => ?_)
 ·
  skip
  refine W.seq <| W.reg <| WL.r (Rd.ldA rfl hkw44 underlying31 rfl isz31) rfl <| WL.p (.mv rfl) rfl <| WL.stL rfl rfl hk46 isz31 rfl rfl (fun w50 hkw50 huw50 hsw50 => ?_)
  have hk51 := hk45.upd huw50 (by ((try simp only) <;> omega))
  have hv53 := BytesAt.upd hv47 huw50 (fun h0 => Nat.ne_of_lt (hvl5 h0))
  have hB54 := Touch.trans hB48 (Touch.of_new huw50 (by omega))
  refine WL.p (.as rfl) rfl <| WL.p (.as rfl) rfl <| WL.nil <| ?_
  refine W.ret (W.retc3 rfl rfl (ldRow hkw50 underlying31 rfl isz31) rfl rfl ?_)
  (rw [if_neg (by assumption), if_neg (by assumption), if_neg (by assumption), if_pos (by assumption)] at hX; subst hX; exact ⟨rfl, ⟨hk51, hv53⟩, hB54⟩)
 refine W.skip <| W.seq <| W.reg <| WL.p (.mv rfl) rfl <| WL.c1 hb78 rfl rfl ((plex_number s _ (by omega))) (fun w55 hw55 => ?_)
 have hk56 := hk45.below hw55 hk45.lt
 have hk57 := hk46.below hw55 hk46.lt
 have hk58 := hkw44.below hw55 hkw44.lt
 have hv59 := BytesAt.below hv47 hw55 (fun h0 => hv47.lt h0)
 have hB60 := Touch.trans hB48 (Touch.mono (Touch.of_below hw55) hB48.size)
 refine WL.p (.mv rfl) rfl <| WL.p (.ext rfl rfl) rfl <| WL.p (.ext rfl rfl) rfl <| WL.alloc zeroValue31 rfl (fun b61 wb61 eb61 hkb61 hub61 hsb61 => ?_)
 have hl63 : r < b61 := by rw [eb61]; exact hk56.lt
 have hk62 := hk56.upd hub61 (Nat.ne_of_lt hl63)
 have hl65 : b1 < b61 := by rw [eb61]; exact hk57.lt
 have hk64 := hk57.upd hub61 (Nat.ne_of_lt hl65)
 have hl67 : b36 < b61 := by rw [eb61]; exact hk58.lt
 have hvl69 := fun h0 => eb61 ▸ hv59.lt h0
 have hv68 := BytesAt.upd hv59 hub61 (fun h0 => Nat.ne_of_lt (hvl69 h0))
 have hgeb61 : w.heap.size ≤ b61 := by rw [eb61]; exact hB60.size
 have hB70 := Touch.trans hB60 (Touch.of_new hub61 hgeb61)
 refine WL.stL rfl rfl hkb61 isz31 rfl rfl (fun w71 hkw71 huw71 hsw71 => ?_)
 have hk72 := hk62.upd huw71 (by ((try simp only) <;> omega))
 have hk73 := hk64.upd huw71 (by ((try simp only) <;> omega))
 have hv75 := BytesAt.upd hv68 huw71 (fun h0 => Nat.ne_of_lt (hvl69 h0))
 have hB76 := Touch.trans hB70 (Touch.of_new huw71 (by omega))
 refine WL.p (.as rfl) rfl <| WL.nil <| ?_
 refine W.seq <| W.seq <| W.reg <| WL.p (.mv rfl) rfl <| WL.p (.not rfl) rfl <| WL.nil <| ?_
 refine W.cond rfl (fun h77 => ?_) (fun h77 => ?_)
 ·
  have h77' := (nT h77)
  refine W.reg <| WL.p (.buildL (ps := _) blt31 rfl rfl rfl (by simp only [put1, List.map, List.zip, List.zipWith] <;> rfl)) rfl ?_
  refine WL.stL rfl rfl hkw71 isz31 rfl rfl (fun w78 hkw78 huw78 hsw78 => ?_)
  have hk79 := hk72.upd huw78 (by ((try simp only) <;> omega))
  have hk80 := hk73.upd huw78 (by ((try simp only) <;> omega))
  have hv82 := BytesAt.upd hv75 huw78 (fun h0 => Nat.ne_of_lt (hvl69 h0))
  have hB83 := Touch.trans hB76 (Touch.of_new huw78 (by omega))
  refine WL.nil <| ?_
  refine W.seq <| W.reg <| WL.r (Rd.ldA rfl hkw78 underlying31 rfl isz31) rfl <| WL.p (.mv rfl) rfl <| WL.p (.mv rfl) rfl <| WL.stL rfl rfl hk80 isz31 rfl rfl (fun w84 hkw84 huw84 hsw84 => ?_)
  have hk85 := hk79.upd huw84 (by ((try simp only) <;> omega))
  have hv88 := BytesAt.upd hv82 huw84 (fun h0 => Nat.ne_of_lt (hvl5 h0))
  have hB89 := Touch.trans hB83 (Touch.of_new huw84 (by omega))
  refine WL.p (.as rfl) rfl <| WL.p (.as rfl) rfl <| WL.nil <| ?_
  refine W.ret (W.retc3 rfl rfl (ldRow hkw84 underlying31 rfl isz31) rfl rfl ?_)
  (rw [if_neg (by assumption), if_neg (by assumption), if_neg (by assumption), if_neg (bF (by assumption)), if_neg (bF (by assumption))] at hX; subst hX; exact ⟨ret_val (by rw [show (numR s).2.2 = false by assumption]; rfl), ⟨by rw [← refT_none (t := t1) (show (refR refs l s t1).isSome = false by assumption)]; exact hk85, hv88⟩, hB89⟩)
 have h77' := (nF h77)
 refine W.skip <| W.seq <| W.reg <| WL.r (Rd.ldA rfl hkw71 underlying31 rfl isz31) rfl <| WL.p (.mv rfl) rfl <| WL.p (.mv rfl) rfl <| WL.stL rfl rfl hk73 isz31 rfl rfl (fun w90 hkw90 huw90 hsw90 => ?_)
 have hk91 := hk72.upd huw90 (by ((try simp only) <;> omega))
 have hv94 := BytesAt.upd hv75 huw90 (fun h0 => Nat.ne_of_lt (hvl5 h0))
 have hB95 := Touch.trans hB76 (Touch.of_new huw90 (by omega))
 refine WL.p (.as rfl) rfl <| WL.p (.as rfl) rfl <| WL.nil <| ?_
 refine W.ret (W.retc3 rfl rfl (ldRow hkw90 underlying31 rfl isz31) rfl rfl ?_)
 (rw [if_neg (by assumption), if_neg (by assumption), if_neg (by assumption), if_neg (bF (by assumption)), if_pos (by assumption)] at hX; subst hX; exact ⟨ret_val (by rw [show (numR s).2.2 = true by assumption]; rfl), ⟨by rw [← refT_none (t := t1) (show (refR refs l s t1).isSome = false by assumption)]; exact hk91, hv94⟩, hB95⟩)
end Go.Proofs.YtjghbcjnplcleaaGreatDoor

namespace Go.Proofs.YtjghbcjnplcleaaGreatDoor
open Go.Proofs.Tryz
open Go.RowKit
section
variable {P : Program} {n : Sh} {fn : Func} {R : Ending → World → Prop} {f : Fr} {w : World}
/-- the slots hold what is known -/
def Holds (f : Fr) (tmps : Array Value) : Prop := ∀ i u, look f i = some u → tmps.getD i undef = u
/-- where a function that defers comes to its door -/
def PostD (P : Program) (fn : Func) (R : Ending → World → Prop) (D : List Deferred) : Exit → Fr → World → Prop
 | .normal, f, w | .ret, f, w => ∀ tmps, Holds f tmps → Leaves P fn tmps R D .returning w
 | .panic chain, f, w => ∀ tmps, Holds f tmps → Leaves P fn tmps R D (.panicking chain) w
 | .outgrown, _, w => R .outgrown w
 | _, _, _ => False
def WD (P : Program) (n : Sh) (fn : Func) (R : Ending → World → Prop) (c : Code) (f : Fr) (w : World) : Prop := ∀ a, Rep n f a → c.wp P (bodyPostD P fn R) a w
theorem postD_of {e : Exit} {a : Act} {w : World} (h : lift n (PostD P fn R n.D) e a w) : bodyPostD P fn R e a w := by
 obtain ⟨f, hr, hQ⟩ := h
 cases e with
 | normal => have := hQ a.tmps hr.2.2; rw [← hr.1] at this; exact this
 | ret => have := hQ a.tmps hr.2.2; rw [← hr.1] at this; exact this
 | panic ch => have := hQ a.tmps hr.2.2; rw [← hr.1] at this; exact this
 | outgrown => exact hQ
 | exit i => exact hQ.elim
 | goto l => exact hQ.elim
theorem WD.of {c : Code} (h : W P n c (PostD P fn R n.D) f w) : WD P n fn R c f w := by
 unfold W at h
 exact fun a ha => wp_mono (h a ha) fun _ _ _ => postD_of
theorem WD.seq {x y : Code} (h : W P n x (nx (fun f w => WD P n fn R y f w) (PostD P fn R n.D)) f w) : WD P n fn R (.seq x y) f w := by
 unfold W at h
 intro a ha
 refine wp_seq (wp_mono (h a ha) ?_)
 rintro e a' w' ⟨f', hr, hQ⟩
 cases e with
 | normal => exact hQ a' hr
 | exit i => exact postD_of (P := P) (fn := fn) (R := R) (n := n) (w := w') (e := .exit i) ⟨f', hr, hQ⟩
 | goto l => exact postD_of (P := P) (fn := fn) (R := R) (n := n) (w := w') (e := .goto l) ⟨f', hr, hQ⟩
 | ret => exact postD_of (P := P) (fn := fn) (R := R) (n := n) (w := w') (e := .ret) ⟨f', hr, hQ⟩
 | panic ch => exact postD_of (P := P) (fn := fn) (R := R) (n := n) (w := w') (e := .panic ch) ⟨f', hr, hQ⟩
 | outgrown => exact postD_of (P := P) (fn := fn) (R := R) (n := n) (w := w') (e := .outgrown) ⟨f', hr, hQ⟩
/-- a closure is made and deferred -/
theorem WD.defer {y : Code} {id d ty ty2 : Nat} {pos pos2 : String} {aft aft2 : Array Edge} {F : FuncId} {caps : List Operand} {vs : List Value} (hcap : evs f caps = some vs) (hd : Nat.blt d n.n = true)
  (h : WD P ⟨n.n, ⟨.fn (.func F) vs.toArray, #[]⟩ :: n.D⟩ fn R y ((d, .func (.func F) #[] vs.toArray) :: f) w) :
  WD P n fn R (.seq (.region id [⟨some d, .makeFunc (.func F) #[] caps.toArray, ty, pos, aft, none⟩, ⟨none, .defer ⟨.value (.tmp d), #[], #[]⟩, ty2, pos2, aft2, none⟩].toArray false) y) f w := by
 intro a ha
 refine wp_seq (wp_region_lit ?_)
 have hmk : (Instr.makeFunc (.func F) #[] (vs.toArray)).run P w = .ok (.func (.func F) #[] vs.toArray) w := rfl
 have e1 : caps.toArray.map a.eval = vs.toArray := by rw [List.map_toArray, evs_map ha.agr _ _ hcap]
 have ha2 := ha.put hd (.func (.func F) #[] vs.toArray)
 have e2 : (a.put (some d) (.func (.func F) #[] vs.toArray)).eval (.tmp d) = .func (.func F) #[] vs.toArray := ha2.agr _ _ (by simp [evo, look, Nat.beq_refl])
 unfold wpList
 rw [if_pos (by simp [Region.wanted])]
 refine Or.inl ?_
 unfold Oper.wp execOp
 simp only [e1, Sem.run_bind, hmk, Result.andThen_ok, Sem.run_pure, List.map_toArray, List.map_nil]
 rw [Oper.upon_value]
 unfold wpList
 rw [if_pos (by simp [Region.wanted])]
 refine Or.inl ?_
 unfold Oper.wp execOp
 simp only [resolve, Deferred.ofValue, e2, Sem.run_bind, Sem.run_pure, Result.andThen_ok, Array.append_empty, List.map_toArray, List.map_nil]
 rw [Oper.upon_defer]
 exact wpList_nil (h _ ⟨by show _ :: _ = _ :: _; rw [ha2.1], ha2.2.1, ha2.2.2⟩)
theorem W.enterD {F : FuncId} {c : Code} {args : Array Value} (hf : P.funcs[F]? = some fn) (hb : fn.body = some c)
  {k : Nat} (hn : fn.ntmps = k) (hl : args.size ≤ k) (h : WD P ⟨k, []⟩ fn R c (number 0 args.toList) w) : Calls P F args w R := by
 refine calls_of_wp_defers hf hb (h _ ⟨rfl, by simp [hn]; omega, ?_⟩)
 intro i v hv
 obtain ⟨j, e, hj⟩ := number_look _ _ _ _ hv
 obtain rfl : i = j := by omega
 have hlt : i < args.size := by
  rcases Nat.lt_or_ge i args.size with h | h
  ·
   exact h
  ·
   rw [List.getElem?_eq_none (by simpa using h)] at hj; cases hj
 have hj' : args[i]? = some v := by rw [← Array.getElem?_toList]; exact hj
 simp only [Array.getD_eq_getD_getElem?]
 rw [Array.getElem?_append_left hlt, hj']; rfl
theorem run_callFunc_body {F : FuncId} {g : Func} (h1 : P.funcs[F]? = some g) (h2 : g.body ≠ none) (h3 : g.name ≠ "runtime.NumGoroutine") (args : Array Value) (w : World) : (callFunc F args).run P w = .ok (.enter F args) w := by
 cases hb : g.body with
 | none => exact absurd hb h2
 | some c => simp [callFunc, h1, h3, hb]
/-- no deferred call is left -/
theorem PostD.ret0 {v : Value} (hv : ResOk P fn f w v) (h : R (.returned v) w) : PostD P fn R [] .ret f w := fun tmps ht => ⟨v, hv tmps ht, h⟩
theorem PostD.norm {D : List Deferred} (h : PostD P fn R D .ret f w) : PostD P fn R D .normal f w := h
/-- the door of a function with one deferred closure that hands nothing back: behind a return -/
theorem PostD.ret {F : FuncId} {vs : List Value} (hb : HasBody P F) (S : World → Prop)
  (hc : CallsD P F vs.toArray .returning w fun e u' w' => u' = .returning ∧ (∃ v, e = .returned v) ∧ S w')
  (hr : ∀ w', S w' → ∃ v, ResOk P fn f w' v ∧ R (.returned v) w') : PostD P fn R [⟨.fn (.func F) vs.toArray, #[]⟩] .ret f w := by
 intro tmps ht
 obtain ⟨g, h1, h2, h3⟩ := hb
 refine leaves_cons (f := F) (args := vs.toArray) (by simp) ?_ (hc.mono ?_)
 ·
  simp only [invoke, Array.empty_append]
  exact run_callFunc_body h1 h2 h3 _ _
 ·
  rintro e u' w' ⟨rfl, ⟨v, rfl⟩, hS⟩
  obtain ⟨v, hv, hR⟩ := hr w' hS
  exact ⟨v, hv tmps ht, hR⟩
/-- .. behind a panic that it catches -/
theorem PostD.caught {F : FuncId} {vs : List Value} {v0 : Value} (hb : HasBody P F) (S : World → Prop)
  (hc : CallsD P F vs.toArray (.panicking [{ v := v0, recovered := false }]) w fun e u' w' => u' = .panicking [{ v := v0, recovered := true }] ∧ (∃ v, e = .returned v) ∧ S w')
  (hr : ∀ w', S w' → ∃ v, ResOk P fn f w' v ∧ R (.returned v) w') : PostD P fn R [⟨.fn (.func F) vs.toArray, #[]⟩] (.panic [{ v := v0, recovered := false }]) f w := by
 intro tmps ht
 obtain ⟨g, h1, h2, h3⟩ := hb
 refine leaves_cons (f := F) (args := vs.toArray) (by simp) ?_ (hc.mono ?_)
 ·
  simp only [invoke, Array.empty_append]
  exact run_callFunc_body h1 h2 h3 _ _
 ·
  rintro e u' w' ⟨rfl, ⟨v, rfl⟩, hS⟩
  obtain ⟨v, hv, hR⟩ := hr w' hS
  exact ⟨v, hv tmps ht, hR⟩
/-- what recover hands back, and the mode of the frame behind it -/
def recM : FrameMode → Value × FrameMode
 | .panicking ({ v, recovered := false, goexit := false } :: older) => (v, .panicking ({ v, recovered := true } :: older))
 | m => (.nilIface, m)
theorem recoverD_recM (c₀ : Frame) (cs : List Frame) : recoverD (c₀ :: cs) = some ((recM c₀.mode).1, { c₀ with mode := (recM c₀.mode).2 } :: cs) ∨ recoverD (c₀ :: cs) = none ∧ recM c₀.mode = (.nilIface, c₀.mode) := by
 unfold recoverD recM
 simp only
 split
 ·
  next h => rw [h]; exact Or.inl rfl
 ·
  next h =>
  refine Or.inr ⟨rfl, ?_⟩
  split
  ·
   next h2 => exact absurd h2 (h _ _)
  ·
   rfl
theorem wpS_region_rec {id d ty : Nat} {pos : String} {aft : Array Edge} {ats : Array TypeId} {l : List Oper} {Q : Exit → Act → List Frame → World → Prop} {a : Act} {c₀ : Frame} {cs : List Frame} {Q0 : Exit → Act → World → Prop}
  (h : wpList P (⟨some d, .call ⟨.builtin .recover, #[], ats⟩, ty, pos, aft, none⟩ :: l).toArray Q0 l (a.put (some d) (recM c₀.mode).1) w)
  (hmono : ∀ e a w, Q0 e a w → Q e a ({ c₀ with mode := (recM c₀.mode).2 } :: cs) w) :
  (Code.region id (⟨some d, .call ⟨.builtin .recover, #[], ats⟩, ty, pos, aft, none⟩ :: l).toArray false).wpS P Q a (c₀ :: cs) w := by
 intro b k hb hro
 generalize ho : (⟨some d, .call ⟨.builtin .recover, #[], ats⟩, ty, pos, aft, none⟩ : Oper) = o at h ⊢
 have h' : wpOps P (o :: l).toArray Q0 (List.range' 1 l.length) (a.put (some d) (recM c₀.mode).1) w := by
  rw [wpOps_eq_wpList l 1 (fun j => by simp [Nat.add_comm 1 j])]; exact h
 obtain ⟨e, a', w', hq, harr⟩ := wp_ops _ _ _ h' b k ({ c₀ with mode := (recM c₀.mode).2 } :: cs)
 refine ⟨e, a', _, w', hmono _ _ _ hq, .of_steps (.head step_region (.one (step_lone_go ?_))) harr⟩
 have hrange : List.range (o :: l).toArray.size = 0 :: List.range' 1 l.length := by
  rw [List.range_eq_range']; simp [List.range'_succ]
 rw [hrange]
 have hg := stepG_op (P := P) (b := b) (k := k) (cs := c₀ :: cs) (w := w) (a := a) (ops := (o :: l).toArray) (i := 0) (rest := List.range' 1 l.length) (o := o) (by simp) (by subst ho; simp [Region.wanted])
 have hfin : ∀ v, (b.at a (.inRegion (o :: l).toArray (0 :: List.range' 1 l.length) :: k)).finish v = b.at (a.put (some d) v) (.inRegion (o :: l).toArray (List.range' 1 l.length) :: k) := by
  intro v; rw [Frame.finish_at]; subst ho; rfl
 have hk : (b.at a (.inRegion (o :: l).toArray (0 :: List.range' 1 l.length) :: k)).kind = .deferred := hb
 have htr := tryRecover_deferred hk (c₀ :: cs)
 have hrun : (execOp a.eval o).run P w = .ok .recover w := by
  subst ho; simp [execOp, resolve, invoke, builtin]
 rw [hg, ← hfin]
 rcases recoverD_recM c₀ cs with hrec | ⟨hrec, hm⟩
 ·
  rw [hrec] at htr
  simp only [Frame.at] at htr ⊢
  simp [stepG.apply, hrun, htr]
 ·
  rw [hrec] at htr
  rw [hm]
  simp only [Frame.at] at htr ⊢
  simp [stepG.apply, hrun, htr]
/-- a deferred closure whose first statement recovers -/
theorem CallsD.rec {F : FuncId} {id d ty k : Nat} {pos : String} {aft : Array Edge} {ats : Array TypeId} {l : List Oper} {y : Code} {args : Array Value} {u : FrameMode} {R : Ending → World → Prop} (hf : P.funcs[F]? = some fn)
  (hb : fn.body = some (.seq (.region id (⟨some d, .call ⟨.builtin .recover, #[], ats⟩, ty, pos, aft, none⟩ :: l).toArray false) y)) (hn : fn.ntmps = k) (hl : args.size ≤ k) (hd : Nat.blt d k = true)
  (h : WL P ⟨k, []⟩ (⟨some d, .call ⟨.builtin .recover, #[], ats⟩, ty, pos, aft, none⟩ :: l).toArray (nx (fun f w => W P ⟨k, []⟩ y (Post P fn R) f w) (Post P fn R)) l ((d, (recM u).1) :: number 0 args.toList) w) :
  CallsD P F args u w fun e u' w' => u' = (recM u).2 ∧ R e w' := by
 refine callsD_of_wpS hf hb fun c₀ cs hu => wpS_seq ?_
 have hrep : Rep ⟨k, []⟩ (number 0 args.toList) { tmps := args ++ Array.replicate (fn.ntmps - args.size) undef, defers := [] } := by
  refine ⟨rfl, by simp [hn]; omega, fun i v hv => ?_⟩
  obtain ⟨j, e, hj⟩ := number_look _ _ _ _ hv
  obtain rfl : i = j := by omega
  have hlt : i < args.size := by
   rcases Nat.lt_or_ge i args.size with h | h
   ·
    exact h
   ·
    rw [List.getElem?_eq_none (by simpa using h)] at hj; cases hj
  have hj' : args[i]? = some v := by rw [← Array.getElem?_toList]; exact hj
  simp only [Array.getD_eq_getD_getElem?]
  rw [Array.getElem?_append_left hlt, hj']; rfl
 subst hu
 have hlast : ∀ e a w, lift ⟨k, []⟩ (Post P fn R) e a w → bodyPostS P fn c₀ cs (fun e u' w' => u' = (recM c₀.mode).2 ∧ R e w') e a ({ c₀ with mode := (recM c₀.mode).2 } :: cs) w := by
  rintro e a w ⟨f, hr, hQ⟩
  unfold Post at hQ
  cases e with
  | normal => obtain ⟨v, h1, h2⟩ := hQ; exact ⟨hr.1, _, rfl, v, h1 _ hr.2.2, rfl, h2⟩
  | ret => obtain ⟨v, h1, h2⟩ := hQ; exact ⟨hr.1, _, rfl, v, h1 _ hr.2.2, rfl, h2⟩
  | panic ch => exact ⟨hr.1, _, rfl, rfl, hQ⟩
  | outgrown => exact ⟨_, rfl, hQ⟩
  | exit i => exact hQ.elim
  | goto l => exact hQ.elim
 unfold WL at h
 have := h _ (hrep.put hd (recM c₀.mode).1)
 refine wpS_region_rec this ?_
 rintro e a w ⟨f, hr, hQ⟩
 cases e with
 | normal =>
  have hQ' : W P ⟨k, []⟩ y (Post P fn R) f w := hQ
  unfold W at hQ'
  exact wpS_of_wp (wp_mono (hQ' a hr) fun e a w hh => hlast e a w hh)
 | _ => exact hlast _ _ _ ⟨f, hr, hQ⟩
/-- nothing panics here -/
def noPn (Q : Exit → Fr → World → Prop) : Exit → Fr → World → Prop
 | .panic _, _, _ => False
 | e, f, w => Q e f w
theorem W.noPn {c : Code} {Q : Exit → Fr → World → Prop} (h : W P n c (noPn Q) f w) : W P n c Q f w := h.mono fun e f w h => by
 cases e with
 | panic ch => exact h.elim
 | normal => exact h
 | ret => exact h
 | exit i => exact h
 | goto l => exact h
 | outgrown => exact h
/-- an interface's value against nil -/
theorem Pure.neNil {x : Operand} {tx ty u : TypeId} {v : Value} (ht : P.underlying tx = some (.interface (P.methodsAt tx))) (hx : evo f x = some (.iface u v)) : Pure P (.binOp .neq tx x (.const .nilIface) ty) f (.bool true) := fun ρ hρ d ty' pos aft g w => by
 have h4 : ρ (.const .nilIface) = .nilIface := hρ _ _ rfl
 simp [execOp, hρ _ _ hx, h4, eqGuard, run_neq_held_nil w tx u v ht]
theorem Pure.neNil0 {x : Operand} {tx ty : TypeId} (ht : P.underlying tx = some (.interface (P.methodsAt tx))) (hx : evo f x = some .nilIface) : Pure P (.binOp .neq tx x (.const .nilIface) ty) f (.bool false) := fun ρ hρ d ty' pos aft g w => by
 have h4 : ρ (.const .nilIface) = .nilIface := hρ _ _ rfl
 simp [execOp, hρ _ _ hx, h4, eqGuard_nil_constR, run_neq_nil_nil w tx ht]
/-- x.(T), where it holds -/
theorem Pure.tas {x : Operand} {tx t : TypeId} {v : Value} {k : IntKind} (hu : P.underlying t = some (.int k)) (hx : evo f x = some (.iface t v)) : Pure P (.typeAssert x tx t true) f (.tuple #[v, .bool true]) := fun ρ hρ d ty' pos aft g w => by
 simp [execOp, hρ _ _ hx, Instr.typeAssert, run_underlying hu]
theorem ldCell {t tb : TypeId} {b o : Nat} {cs : Array Value} {v : Value} {w : World} (hb : Blk w b cs tb) (ha : (isAgg t).run P w = .ok false w) (hv : cs[o]? = some v) : (loadVar t ⟨b, o, none⟩).run P w = .ok v w := by
 have hc := (hb.cell o).trans hv
 simp [loadVar, ha, hc]
theorem ResOk.cells3 {a b c : Tmp} {ta tb tc : TypeId} {pa pb pc : Addr} {x y z : Value} (hr : fn.results = #[.cell a ta, .cell b tb, .cell c tc]) (ha : look f a = some (.pointer (some pa))) (hb : look f b = some (.pointer (some pb))) (hc : look f c = some (.pointer (some pc)))
  (hx : (loadVar ta pa).run P w = .ok x w) (hy : (loadVar tb pb).run P w = .ok y w) (hz : (loadVar tc pc).run P w = .ok z w) : ResOk P fn f w (.tuple #[x, y, z]) := fun tmps hh => by
 have e1 := hh _ _ ha; have e2 := hh _ _ hb; have e3 := hh _ _ hc
 simp only [Array.getD_eq_getD_getElem?] at e1 e2 e3
 simp [results, hr, e1, e2, e3, asAddr, hx, hy, hz]
end
end Go.Proofs.YtjghbcjnplcleaaGreatDoor

namespace Go.Proofs.YtjghbcjnplcleaaGreatDoor
open Go.Proofs.Tryz
open Go.RowKit
/-- a call's end: a value of which S tells, or a panic by an error's number -/
def EndsV {α : Type} (E : TypeId) (res : Except Int α) (S : α → Value → World → Prop) (S' : World → Prop) (e : Ending) (w : World) : Prop :=
 match res with
 | .ok a => ∃ v, e = .returned v ∧ S a v w
 | .error k => e = .panicked [{ v := .iface E (.int .i64 k), recovered := false }] ∧ S' w
theorem EndsV.ok {α : Type} {E : TypeId} {res : Except Int α} {S : α → Value → World → Prop} {S' : World → Prop} {e : Ending} {w : World} (a : α) (v : Value) (h : res = .ok a) (he : e = .returned v) (hs : S a v w) : EndsV E res S S' e w := by
 unfold EndsV; rw [h]; exact ⟨v, he, hs⟩
theorem EndsV.err {α : Type} {E : TypeId} {res : Except Int α} {S : α → Value → World → Prop} {S' : World → Prop} {w : World} (k : Int) (h : res = .error k) (hs : S' w) : EndsV E res S S' (.panicked [{ v := .iface E (.int .i64 k), recovered := false }]) w := by
 unfold EndsV; rw [h]; exact ⟨rfl, hs⟩
section
variable {P : Program} {n : Sh} {f : Fr}
theorem WL.cx {ops : Array Oper} {Q : Exit → Fr → World → Prop} {w : World} {rest : List Oper} {d ty : Nat} {pos : String} {aft : Array Edge} {F : FuncId} {xs : List Operand} {ats : Array TypeId} {vs : List Value} {α : Type}
  {E : TypeId} {res : Except Int α} {S : α → Value → World → Prop} {S' : World → Prop} (hb : HasBody P F) (hx : evs f xs = some vs) (hd : Nat.blt d n.n = true)
  (hc : Calls P F vs.toArray w (EndsV E res S S')) (herr : ∀ k w', res = .error k → S' w' → Q (.panic [{ v := .iface E (.int .i64 k), recovered := false }]) f w')
  (hok : ∀ a v w', res = .ok a → S a v w' → WL P n ops Q rest ((d, v) :: f) w') : WL P n ops Q (⟨some d, .call ⟨.value (.func F), xs.toArray, ats⟩, ty, pos, aft, none⟩ :: rest) f w := by
 cases hres : res with
 | ok a => exact WL.call (V := fun v : Value => v) hb hx hd (hc.mono fun e w' h => by rw [hres] at h; exact h) fun v w' h => hok a v w' hres h
 | error k => exact WL.cp hb hx (hc.mono fun e w' h => by rw [hres] at h; exact h) fun w' h => herr k w' hres h
end
theorem OwnM.touch' {α : Type} {L : Lay α} {e : TypeId} {B r : Nat} {w w1 : World} {v : Value} {l : List α} (h : OwnM L e B w v l) (hT : Touch w.heap.size r w w1) (hr : r < B) : OwnM L e B w1 v l :=
 h.same fun g hg => hT.block g (h.lt g hg).2 (by have := (h.lt g hg).1; omega)
section
variable {P : Program} {f : Fr}
theorem Pure.eqNil {x : Operand} {tx ty u : TypeId} {v : Value} (ht : P.underlying tx = some (.interface (P.methodsAt tx))) (hx : evo f x = some (.iface u v)) : Pure P (.binOp .eql tx x (.const .nilIface) ty) f (.bool false) := fun ρ hρ d ty' pos aft g w => by
 have h4 : ρ (.const .nilIface) = .nilIface := hρ _ _ rfl
 simp [execOp, hρ _ _ hx, h4, eqGuard, run_eql_held_nil w tx u v ht]
theorem Pure.eqNil0 {x : Operand} {tx ty : TypeId} (ht : P.underlying tx = some (.interface (P.methodsAt tx))) (hx : evo f x = some .nilIface) : Pure P (.binOp .eql tx x (.const .nilIface) ty) f (.bool true) := fun ρ hρ d ty' pos aft g w => by
 have h4 : ρ (.const .nilIface) = .nilIface := hρ _ _ rfl
 simp [execOp, hρ _ _ hx, h4, eqGuard_nil_constR, run_eql_nil_nil w tx ht]
end
end Go.Proofs.YtjghbcjnplcleaaGreatDoor

namespace Go.Proofs.YtjghbcjnplcleaaGreatDoor
open Go.Proofs.Tryz
open Go.RowKit
theorem plex_fail (k : Int) (w : World) : Calls Tryz.prog 68 #[.int .i64 k] w fun e w' => e = .panicked [{ v := .iface 35 (.int .i64 k), recovered := false }] ∧ w = w' := by
 refine W.enter func68 rfl ntmps68 (Nat.le_of_ble_eq_true rfl) ?_
 refine W.reg <| WL.p (.mv rfl) rfl <| WL.p (.mkI underlying35 rfl) rfl <| WL.panic rfl (pn_is ?_)
 exact ⟨rfl, rfl⟩
def wordE (X : WR) : Except Int WR := if X.ok then .ok X else .error 23
theorem plex_objw (r : Nat) (p : Option Addr) (l : List UInt8) (c t : Nat) (refs : Bool) (d : Int) (w : World) (h : PRd w r p l c t refs) (hne : 0 < l.length → (pA p).block ≠ r) (hc : l.length ≤ c) (hl : l.length ≤ 100000000) (ht : t < l.length)
  (h47 : l[t] ≠ 47) (h91 : l[t] ≠ 91) (h40 : l[t] ≠ 40) (h60 : l[t] ≠ 60) :
  Calls Tryz.prog 43 #[.pointer (some ⟨r, 0, none⟩), .int .i64 d] w (Ends 35 (wordE (plexW refs l t)) (fun X => .agg (pobj X.kind X.n []).toArray) (fun X w' => PRd w' r p l c X.np refs ∧ Touch w.heap.size r w w') (fun w' => Touch w.heap.size r w w')) := by
 have hr := h.1
 have hb := h.2
 obtain ⟨X, hX⟩ : ∃ X, X = plexW refs l t := ⟨_, rfl⟩
 have hWc : ∀ w1, PRd w1 r p l c t refs → Calls Tryz.prog 48 #[.pointer (some ⟨r, 0, none⟩)] w1 fun e w' => e = .returned X.val ∧ PRd w' r p l c X.np refs ∧ Touch w1.heap.size r w1 w' := fun w1 h1 => by rw [hX]; exact plex_word r p l c t refs w1 h1 hne hc hl (by omega)
 rw [← hX]
 refine W.enter func43 rfl ntmps43 (Nat.le_of_ble_eq_true rfl) ?_
 have hB0 := Touch.refl (w.heap.size) r w
 refine W.seq <| W.reg <| WL.alloc zeroValue31 rfl (fun b1 wb1 eb1 hkb1 hub1 hsb1 => ?_)
 have hl3 : r < b1 := by rw [eb1]; exact hr.lt
 have hk2 := hr.upd hub1 (Nat.ne_of_lt hl3)
 have hvl5 := fun h0 => eb1 ▸ hb.lt h0
 have hv4 := BytesAt.upd hb hub1 (fun h0 => Nat.ne_of_lt (hvl5 h0))
 have hgeb1 : w.heap.size ≤ b1 := by rw [eb1]; exact hB0.size
 have hB6 := Touch.trans hB0 (Touch.of_new hub1 hgeb1)
 refine WL.nil <| ?_
 refine W.seq <| W.seq ?_
 have hrB : r < b1 := by have := hr.lt; omega
 refine W.regQ mixed (by kernel_rfl) ?_
 refine WQ.p (.mv rfl) rfl <| WQ.p (.nck rfl) rfl <| WQ.p (.fa underlying63 rfl sizeOf22 (by decide) rfl) rfl <| WQ.r (fun m => Rd.ld (isAgg22 _) rfl hk2 rfl) rfl <| WQ.p (.mv rfl) rfl <| WQ.p (.nck rfl) rfl <| WQ.p (.fa underlying63 rfl sizeOf3 (by decide) rfl) rfl <| WQ.r (fun m => Rd.ld (isAgg3 _) rfl hk2 rfl) rfl <| WQ.p (.ixb underlying22 sizeOf5 rfl rfl (hv4.isp (by omega)) (t) (rfl) (ht)) rfl <| WQ.r (fun m => Rd.iis ((l[t].toNat : Int)) (Rd.ldc (isAgg5 _) rfl ((hv4.drewN m).cells (t) (by omega))) (by omega)) rfl <| WQ.p (.as rfl) rfl <| WQ.nil (fun w7 dw7 => ?_)
 have hk8 := hk2.drew dw7
 have hk9 := hkb1.drew dw7
 have hv10 := hv4.drew dw7
 have hB11 := Touch.trans hB6 (Touch.of_drew dw7)
 refine W.seq <| W.reg <| WL.p (.mv rfl) rfl <| WL.nil <| ?_
 refine W.block <| W.seq <| W.reg <| WL.p (.eql rfl rfl) rfl <| WL.p (.as rfl) rfl <| WL.nil <| ?_
 refine W.cond rfl (fun h12 => ?_) (fun h12 => ?_)
 ·
  have h12' := of_decide_eq_true h12
  exact absurd (u8_eq (by assumption)) h47
 have h12' := of_decide_eq_false h12
 refine W.seq <| W.reg <| WL.p (.eql rfl rfl) rfl <| WL.p (.as rfl) rfl <| WL.nil <| ?_
 refine W.cond rfl (fun h13 => ?_) (fun h13 => ?_)
 ·
  have h13' := of_decide_eq_true h13
  exact absurd (u8_eq (by assumption)) h91
 have h13' := of_decide_eq_false h13
 refine W.seq <| W.reg <| WL.p (.eql rfl rfl) rfl <| WL.p (.as rfl) rfl <| WL.nil <| ?_
 refine W.cond rfl (fun h14 => ?_) (fun h14 => ?_)
 ·
  have h14' := of_decide_eq_true h14
  exact absurd (u8_eq (by assumption)) h40
 have h14' := of_decide_eq_false h14
 refine W.seq <| W.reg <| WL.p (.eql rfl rfl) rfl <| WL.p (.as rfl) rfl <| WL.nil <| ?_
 refine W.cond rfl (fun h15 => ?_) (fun h15 => ?_)
 ·
  have h15' := of_decide_eq_true h15
  exact absurd (u8_eq (by assumption)) h60
 have h15' := of_decide_eq_false h15
 refine W.skip <| W.seq <| W.reg <| WL.p (.mv rfl) rfl <| WL.c1 hb48 rfl rfl ((hWc _ ⟨hk8, hv10⟩)) (fun w16 hw16 => ?_)
 have hk17 := hw16.1.1
 have hk18 := Blk.touch hk9 hw16.2 hk9.lt (by omega)
 have hv19 := hw16.1.2
 have hB20 := Touch.trans hB11 (Touch.mono hw16.2 hB11.size)
 refine WL.p (.mv rfl) rfl <| WL.p (.ext rfl rfl) rfl <| WL.p (.ext rfl rfl) rfl <| WL.p (.ext rfl rfl) rfl <| WL.alloc zeroValue31 rfl (fun b21 wb21 eb21 hkb21 hub21 hsb21 => ?_)
 have hl23 : r < b21 := by rw [eb21]; exact hk17.lt
 have hk22 := hk17.upd hub21 (Nat.ne_of_lt hl23)
 have hl25 : b1 < b21 := by rw [eb21]; exact hk18.lt
 have hk24 := hk18.upd hub21 (Nat.ne_of_lt hl25)
 have hvl27 := fun h0 => eb21 ▸ hv19.lt h0
 have hv26 := BytesAt.upd hv19 hub21 (fun h0 => Nat.ne_of_lt (hvl27 h0))
 have hgeb21 : w.heap.size ≤ b21 := by rw [eb21]; exact hB20.size
 have hB28 := Touch.trans hB20 (Touch.of_new hub21 hgeb21)
 refine WL.stL rfl rfl hkb21 isz31 rfl rfl (fun w29 hkw29 huw29 hsw29 => ?_)
 have hk30 := hk22.upd huw29 (by ((try simp only) <;> omega))
 have hk31 := hk24.upd huw29 (by ((try simp only) <;> omega))
 have hv32 := BytesAt.upd hv26 huw29 (fun h0 => Nat.ne_of_lt (hvl27 h0))
 have hB33 := Touch.trans hB28 (Touch.of_new huw29 (by omega))
 refine WL.p (.as rfl) rfl <| WL.p (.as rfl) rfl <| WL.nil <| ?_
 refine W.seq <| W.seq <| W.reg <| WL.p (.mv rfl) rfl <| WL.p (.not rfl) rfl <| WL.nil <| ?_
 refine W.cond rfl (fun h34 => ?_) (fun h34 => ?_)
 ·
  have h34' := (nT h34)
  refine W.reg <| WL.cp hb68 rfl ((plex_fail 23 _)) (fun w35 hw35 => ?_)
  obtain rfl := hw35
  exact pn_is (Ends.err 23 (by unfold wordE; rw [if_neg (bF (by assumption))]) hB33)
 have h34' := (nF h34)
 refine W.skip <| W.seq <| W.reg <| WL.r (Rd.ldA rfl hkw29 underlying31 rfl isz31) rfl <| WL.stL rfl rfl hk31 isz31 rfl rfl (fun w36 hkw36 huw36 hsw36 => ?_)
 have hk37 := hk30.upd huw36 (by ((try simp only) <;> omega))
 have hv39 := BytesAt.upd hv32 huw36 (fun h0 => Nat.ne_of_lt (hvl5 h0))
 have hB40 := Touch.trans hB33 (Touch.of_new huw36 (by omega))
 refine WL.nil <| ?_
 refine W.ret (W.retc1 rfl rfl (ldRow hkw36 underlying31 rfl isz31)  ?_)
 exact Ends.ok X (by unfold wordE; rw [if_pos (by assumption)]) rfl ⟨⟨hk37, hv39⟩, hB40⟩
theorem guard_nil (b : Nat) (w : World) : Calls Tryz.prog 42 #[.nilIface, .pointer (some ⟨b, 0, none⟩)] w fun e w' => e = .returned (.tuple #[]) ∧ w = w' := by
 refine W.enter func42 rfl ntmps42 (Nat.le_of_ble_eq_true rfl) ?_
 refine W.seq <| W.seq <| W.reg <| WL.p (.mv rfl) rfl <| WL.p (.eqNil0 (by kernel_rfl) rfl) rfl <| WL.nil <| ?_
 refine W.condT rfl rfl ?_
 refine W.ret (W.ret0 rfl  ?_)
 exact ⟨rfl, rfl⟩
theorem guard_err (b B : Nat) (j k : Int) (w : World) (h : Blk w b #[.int .i64 j] 35) (hB : B ≤ b) : Calls Tryz.prog 42 #[.iface 35 (.int .i64 k), .pointer (some ⟨b, 0, none⟩)] w fun e w' => e = .returned (.tuple #[]) ∧ Blk w' b #[.int .i64 k] 35 ∧ Upd b w w' := by
 refine W.enter func42 rfl ntmps42 (Nat.le_of_ble_eq_true rfl) ?_
 refine W.seq <| W.seq <| W.reg <| WL.p (.mv rfl) rfl <| WL.p (.eqNil (by kernel_rfl) rfl) rfl <| WL.nil <| ?_
 refine W.condF rfl rfl ?_
 refine W.skip <| W.seq <| W.reg <| WL.p (.mv rfl) rfl <| WL.p (.tas underlying35 rfl) rfl <| WL.p (.mv rfl) rfl <| WL.p (.ext rfl rfl) rfl <| WL.p (.ext rfl rfl) rfl <| WL.p (.as rfl) rfl <| WL.p (.as rfl) rfl <| WL.nil <| ?_
 refine W.seq <| W.seq <| W.reg <| WL.p (.mv rfl) rfl <| WL.p (.not rfl) rfl <| WL.nil <| ?_
 refine W.condF rfl rfl ?_
 refine W.skip <| W.reg <| WL.p (.mv rfl) rfl <| WL.p (.mv rfl) rfl <| WL.p (.nck rfl) rfl <| WL.st sizeOf35 rfl rfl rfl h (by first | decide | exact Nat.le_of_ble_eq_true rfl) (fun w1 hkw1 huw1 hsw1 => ?_)
 have hkw1 : Blk w1 b _ _ := hkw1
 have huw1 : Upd b _ _ := huw1
 refine WL.nil <| ?_
 refine W.norm (W.ret0 rfl ?_)
 exact ⟨rfl, hkw1, by assumption⟩
theorem plex_quiet (b1 b2 b5 : Nat) (w : World) (h : Blk w b5 #[.int .i64 0] 35) :
  CallsD Tryz.prog 41 #[.pointer (some ⟨b5, 0, none⟩), .pointer (some ⟨b1, 0, none⟩), .pointer (some ⟨b2, 0, none⟩)] .returning w fun e u' w' => u' = .returning ∧ (∃ v, e = .returned v) ∧ w' = w := by
 refine CallsD.rec func41 rfl ntmps41 (Nat.le_of_ble_eq_true rfl) rfl ?_
 refine WL.c1 hb42 rfl rfl ((guard_nil _ _)) (fun w1 hw1 => ?_)
 obtain rfl := hw1
 refine WL.nil <| ?_
 refine W.seq <| W.reg <| WL.r (Rd.ld (isAgg35 _) rfl h rfl) rfl <| WL.p (.neq rfl rfl) rfl <| WL.nil <| ?_
 refine W.condF rfl rfl ?_
 refine W.skip ?_
 refine W.norm (W.ret0 rfl ?_)
 exact ⟨⟨_, rfl⟩, rfl⟩
theorem plex_caught (b1 b2 b5 B : Nat) (c0 c1 c2 c3 c4 c5 : Value) (i j k : Int) (w : World) (h1 : Blk w b1 [c0, c1, c2, c3, c4, c5].toArray 31) (h2 : Blk w b2 #[.int .i64 i] 3) (h5 : Blk w b5 #[.int .i64 j] 35) (hB1 : B ≤ b1) (h12 : b1 < b2) (h25 : b2 < b5) (hk : k ≠ 0) :
  CallsD Tryz.prog 41 #[.pointer (some ⟨b5, 0, none⟩), .pointer (some ⟨b1, 0, none⟩), .pointer (some ⟨b2, 0, none⟩)] (.panicking [{ v := .iface 35 (.int .i64 k), recovered := false }]) w
   fun e u' w' => u' = .panicking [{ v := .iface 35 (.int .i64 k), recovered := true }] ∧ (∃ v, e = .returned v) ∧
    Blk w' b1 (pobj 0 0 []).toArray 31 ∧ Blk w' b2 #[.int .i64 0] 3 ∧ Blk w' b5 #[.int .i64 k] 35 ∧ Below B w w' := by
 refine CallsD.rec func41 rfl ntmps41 (Nat.le_of_ble_eq_true rfl) rfl ?_
 have hB0 := Below.refl (B) w
 refine WL.c1 hb42 rfl rfl ((guard_err b5 B _ k _ h5 (by omega))) (fun w1 hw1 => ?_)
 obtain ⟨hg1, hg2⟩ := hw1
 have hb1 := (h1).upd hg2 (by omega)
 have hb2 := (h2).upd hg2 (by omega)
 have hBg := Upd.below hB0 (by omega) hg2
 refine WL.nil <| ?_
 refine W.seq <| W.reg <| WL.r (Rd.ld (isAgg35 _) rfl hg1 rfl) rfl <| WL.p (.bis (true) (.neq rfl rfl) (by simp [hk])) rfl <| WL.nil <| ?_
 refine W.condT rfl rfl ?_
 refine W.reg <| WL.p (.buildL (ps := _) blt31 rfl rfl rfl (by simp only [put1, List.map, List.zip, List.zipWith] <;> rfl)) rfl ?_
 refine WL.stL rfl rfl hb1 isz31 rfl rfl (fun w2 hkw2 huw2 hsw2 => ?_)
 have hk3 := hg1.upd huw2 (by ((try simp only) <;> omega))
 have hk4 := hb2.upd huw2 (by ((try simp only) <;> omega))
 have hB5 := Upd.below hBg (by omega) huw2
 refine WL.st sizeOf3 rfl rfl rfl hk4 (by first | decide | exact Nat.le_of_ble_eq_true rfl) (fun w6 hkw6 huw6 hsw6 => ?_)
 have hkw6 : Blk w6 b2 _ _ := hkw6
 have huw6 : Upd b2 _ _ := huw6
 have hk7 := hk3.upd huw6 (by ((try simp only) <;> omega))
 have hk8 := hkw2.upd huw6 (by ((try simp only) <;> omega))
 have hB9 := Upd.below hB5 (by omega) huw6
 refine WL.nil <| ?_
 refine W.norm (W.ret0 rfl ?_)
 exact ⟨⟨_, rfl⟩, hk8, hkw6, hk7, hB9⟩
/-- what Object answers where a word is -/
def objwV (X : WR) : Value := if X.ok then .tuple #[.agg (pobj X.kind X.n []).toArray, .int .i64 (X.np : Int), .int .i64 0] else .tuple #[.agg (pobj 0 0 []).toArray, .int .i64 0, .int .i64 23]
theorem plex_Objw (a d : Int) (p : Option Addr) (l : List UInt8) (c t : Nat) (w : World) (hb : BytesAt w p l) (hc : l.length ≤ c) (hl : l.length ≤ 100000000) (ha : ¬ (a < 0 ∨ (l.length : Int) < a)) (hst : t = skipAt false l (insA l a)) (ht : t < l.length)
    (h47 : l[t] ≠ 47) (h91 : l[t] ≠ 91) (h40 : l[t] ≠ 40) (h60 : l[t] ≠ 60) :
    Calls Tryz.prog 18 #[.slice p l.length c, .int .i64 a, .int .i64 d] w fun e w' => e = .returned (objwV (plexW true l t)) ∧ Below w.heap.size w w' := by
  obtain ⟨X, hX⟩ : ∃ X, X = plexW true l t := ⟨_, rfl⟩
  have hSk : ∀ w1, BytesAt w1 p l → Calls Tryz.prog 13 #[.slice p l.length c, .int .i64 a] w1 fun e w' => e = .returned (.int .i64 (t : Int)) ∧ w1 = w' := fun w1 h1 => by rw [hst]; exact plex_Skip p l c a w1 h1 hl
  rw [← hX]
  refine W.enterD func18 rfl ntmps18 (Nat.le_of_ble_eq_true rfl) ?_
  have hB0 := Below.refl (w.heap.size) w
  refine WD.seq ?_
  refine W.reg <| WL.alloc zeroValue31 rfl (fun b1 wb1 eb1 hkb1 hub1 hsb1 => ?_)
  have hvl3 := fun h0 => eb1 ▸ hb.lt h0
  have hv2 := BytesAt.upd hb hub1 (fun h0 => Nat.ne_of_lt (hvl3 h0))
  have hB4 := Upd.below hB0 (by rw [eb1]; exact hB0.size) hub1
  have hgeb1 : w.heap.size ≤ b1 := by rw [eb1]; exact hB0.size
  refine WL.alloc zeroValue3 rfl (fun b5 wb5 eb5 hkb5 hub5 hsb5 => ?_)
  have hl7 : b1 < b5 := by rw [eb5]; exact hkb1.lt
  have hk6 := hkb1.upd hub5 (Nat.ne_of_lt hl7)
  have hvl9 := fun h0 => eb5 ▸ hv2.lt h0
  have hv8 := BytesAt.upd hv2 hub5 (fun h0 => Nat.ne_of_lt (hvl9 h0))
  have hB10 := Upd.below hB4 (by rw [eb5]; exact hB4.size) hub5
  have hgeb5 : w.heap.size ≤ b5 := by rw [eb5]; exact hB4.size
  refine WL.alloc zeroValue35 rfl (fun b11 wb11 eb11 hkb11 hub11 hsb11 => ?_)
  have hl13 : b1 < b11 := by rw [eb11]; exact hk6.lt
  have hk12 := hk6.upd hub11 (Nat.ne_of_lt hl13)
  have hl15 : b5 < b11 := by rw [eb11]; exact hkb5.lt
  have hk14 := hkb5.upd hub11 (Nat.ne_of_lt hl15)
  have hvl17 := fun h0 => eb11 ▸ hv8.lt h0
  have hv16 := BytesAt.upd hv8 hub11 (fun h0 => Nat.ne_of_lt (hvl17 h0))
  have hB18 := Upd.below hB10 (by rw [eb11]; exact hB10.size) hub11
  have hgeb11 : w.heap.size ≤ b11 := by rw [eb11]; exact hB10.size
  refine WL.nil <| ?_
  refine WD.seq ?_
  refine W.cutB 17 (false) ?_ ?_
  · skip
    refine W.reg <| WL.p (.mv rfl) rfl <| WL.p (.lss rfl rfl) rfl <| WL.p (.mv rfl) rfl <| WL.gd rfl rfl rfl (fun g19 => ?_) (fun g19 => ?_)
    · have g19' := of_decide_eq_false g19
      refine WL.p (.mv rfl) rfl <| WL.gy rfl rfl rfl g19 <| WL.p (.mv rfl) rfl <| WL.gy rfl rfl rfl g19 <| WL.p (.lenS underlying22 rfl) rfl <| WL.gy rfl rfl rfl g19 <| WL.p (.gtr rfl rfl) rfl <| WL.p (.pkF rfl g19 rfl) rfl <| WL.nil <| ?_
      exact ⟨⟨lk_b rfl (by first | (simp; omega) | (exfalso; simp_all; omega) | (exfalso; omega)), by repeat (first | exact Le.refl _ | refine Le.cons rfl ?_)⟩, rfl⟩
    have g19' := of_decide_eq_true g19
    refine WL.gn rfl rfl rfl g19 <| WL.gn rfl rfl rfl g19 <| WL.gn rfl rfl rfl g19 <| WL.p (.pkT rfl g19 rfl) rfl <| WL.nil <| ?_
    exact ⟨⟨lk_b rfl (by first | (simp; omega) | (exfalso; simp_all; omega) | (exfalso; omega)), by repeat (first | exact Le.refl _ | refine Le.cons rfl ?_)⟩, rfl⟩
  refine W.condF rfl rfl ?_
  refine W.skip ?_
  refine WD.seq ?_
  refine W.reg <| WL.p (.mv rfl) rfl <| WL.p (.mv rfl) rfl <| WL.c1 hb13 rfl rfl ((hSk _ hv16)) (fun w20 hw20 => ?_)
  obtain rfl := hw20
  refine WL.p (.as rfl) rfl <| WL.nil <| ?_
  refine WD.seq ?_
  refine W.seq <| W.reg <| WL.p (.mv rfl) rfl <| WL.p (.mv rfl) rfl <| WL.p (.lenS underlying22 rfl) rfl <| WL.p (.bis (false) (.eql rfl rfl) (by simp; omega)) rfl <| WL.nil <| ?_
  refine W.condF rfl rfl ?_
  refine W.skip ?_
  refine WD.defer rfl rfl ?_
  refine WD.of ?_
  refine W.seq <| W.reg <| WL.p (.mv rfl) rfl <| WL.p (.mv rfl) rfl <| ?_
  refine WL.p (.buildL (ps := _) blt63 rfl rfl rfl (by simp only [put1, List.map, List.zip, List.zipWith, List.set] <;> rfl)) rfl ?_
  refine WL.box rfl rfl (fun b21 wb21 eb21 hkb21 hub21 hsb21 => ?_)
  have hl23 : b1 < b21 := by rw [eb21]; exact hk12.lt
  have hk22 := hk12.upd hub21 (Nat.ne_of_lt hl23)
  have hl25 : b5 < b21 := by rw [eb21]; exact hk14.lt
  have hk24 := hk14.upd hub21 (Nat.ne_of_lt hl25)
  have hl27 : b11 < b21 := by rw [eb21]; exact hkb11.lt
  have hk26 := hkb11.upd hub21 (Nat.ne_of_lt hl27)
  have hvl29 := fun h0 => eb21 ▸ hv16.lt h0
  have hv28 := BytesAt.upd hv16 hub21 (fun h0 => Nat.ne_of_lt (hvl29 h0))
  have hB30 := Upd.below hB18 (by rw [eb21]; exact hB18.size) hub21
  have hgeb21 : w.heap.size ≤ b21 := by rw [eb21]; exact hB18.size
  refine WL.p (.as rfl) rfl <| WL.nil <| ?_
  refine W.seq <| W.reg <| WL.p (.mv rfl) rfl <| WL.p (.mv rfl) rfl <| WL.ce hb43 rfl rfl ((by have hq := plex_objw b21 p l c t true d _ ⟨hkb21, hv28⟩ (fun h0 => by have := hb.lt h0; omega) hc hl ht h47 h91 h40 h60; rw [← hX] at hq; exact hq)) (fun k33 w31 hrw31 hw31 => ?_) (fun a32 w31 hrw31 hw31 => ?_)
  · skip
    have hBew31 := Below.trans hB30 (Touch.below hw31 hB30.size (by omega))
    have hkk : X.ok = false ∧ k33 = 23 := by have h0 := hrw31; unfold wordE at h0; cases hxo : X.ok <;> rw [hxo] at h0 <;> simp at h0; exact ⟨rfl, h0.symm⟩
    exact PostD.caught hb41 (fun w' => _) (plex_caught b1 b5 b11 w.heap.size _ _ _ _ _ _ _ _ k33 _ (Blk.touch hk22 hw31 hk22.lt (by omega)) (Blk.touch hk24 hw31 hk24.lt (by omega)) (Blk.touch hk26 hw31 hk26.lt (by omega)) (by omega) (by omega) (by omega) (by rw [hkk.2]; decide))
      (fun w' hS => ⟨_, ResOk.cells3 rfl rfl rfl rfl (ldRow hS.1 underlying31 rfl isz31) (ldCell hS.2.1 (isAgg3 _) rfl) (ldCell hS.2.2.1 (isAgg35 _) rfl), ret_val (by unfold objwV; rw [hkk.1, hkk.2]; rfl), hBew31.trans hS.2.2.2⟩)
  have hk34 := Blk.touch hk22 hw31.2 hk22.lt (by omega)
  have hk35 := Blk.touch hk24 hw31.2 hk24.lt (by omega)
  have hk36 := Blk.touch hk26 hw31.2 hk26.lt (by omega)
  have hk37 := hw31.1.1
  have hB39 := Below.trans hB30 (Touch.below hw31.2 hB30.size (by omega))
  obtain ⟨hxo, ha0⟩ : X.ok = true ∧ a32 = X := by have h0 := hrw31; unfold wordE at h0; cases hxo : X.ok <;> rw [hxo] at h0 <;> simp at h0; exact ⟨rfl, h0.symm⟩
  refine WL.stL rfl rfl hk34 isz31 rfl rfl (fun w40 hkw40 huw40 hsw40 => ?_)
  have hk41 := hk35.upd huw40 (by ((try simp only) <;> omega))
  have hk42 := hk36.upd huw40 (by ((try simp only) <;> omega))
  have hk43 := hk37.upd huw40 (by ((try simp only) <;> omega))
  have hB45 := Upd.below hB39 (by omega) huw40
  refine WL.nil <| ?_
  refine W.seq ?_
  refine W.noPn ?_
  refine W.regY 8 rfl mixed (fun w46 dw46 => ?_)
  have hk47 := hkw40.drew dw46
  have hk48 := hk41.drew dw46
  have hk49 := hk42.drew dw46
  have hk50 := hk43.drew dw46
  have hB52 := Drew.below hB45 dw46
  refine WY.tk 1 rfl (.mv rfl) rfl ?_
  refine WY.tk 2 rfl (.nck rfl) rfl ?_
  refine WY.tk 3 rfl (.fa underlying63 rfl sizeOf3 (by decide) rfl) rfl ?_
  refine WY.br2 0 rfl 4 rfl ?_ ?_
  · skip
    refine WL.r (Rd.ldA rfl hk47 underlying31 rfl isz31) rfl <| WL.nil <| ?_
    refine WY.br2 4 rfl 5 rfl ?_ ?_
    · skip
      refine WL.r (Rd.ld (isAgg3 _) rfl hk50 rfl) rfl <| WL.nil <| ?_
      refine WY.br1 5 rfl ?_
      refine WL.stL rfl rfl hk47 isz31 rfl rfl (fun w53 hkw53 huw53 hsw53 => ?_)
      have hk54 := hk48.upd huw53 (by ((try simp only) <;> omega))
      have hk55 := hk49.upd huw53 (by ((try simp only) <;> omega))
      have hB58 := Upd.below hB52 (by omega) huw53
      refine WL.nil <| ?_
      refine WY.br1 6 rfl ?_
      refine WL.st sizeOf3 rfl rfl rfl hk54 (by first | decide | exact Nat.le_of_ble_eq_true rfl) (fun w59 hkw59 huw59 hsw59 => ?_)
      have hkw59 : Blk w59 b5 _ _ := hkw59
      have huw59 : Upd b5 _ _ := huw59
      have hk60 := hkw53.upd huw59 (by ((try simp only) <;> omega))
      have hk61 := hk55.upd huw59 (by ((try simp only) <;> omega))
      have hB64 := Upd.below hB58 (by omega) huw59
      refine WL.nil <| ?_
      refine WY.br1 7 rfl ?_
      refine WL.st sizeOf35 rfl rfl rfl hk61 (by first | decide | exact Nat.le_of_ble_eq_true rfl) (fun w65 hkw65 huw65 hsw65 => ?_)
      have hkw65 : Blk w65 b11 _ _ := hkw65
      have huw65 : Upd b11 _ _ := huw65
      have hk66 := hk60.upd huw65 (by ((try simp only) <;> omega))
      have hk67 := hkw59.upd huw65 (by ((try simp only) <;> omega))
      have hB70 := Upd.below hB64 (by omega) huw65
      refine WL.nil <| ?_
      refine WY.done (by kernel_rfl) ?_
      refine W.ret ?_
      exact PostD.ret hb41 (fun w' => _) (plex_quiet b1 b5 b11 _ hkw65)
        (fun w' hS => by subst hS; exact ⟨_, ResOk.cells3 rfl rfl rfl rfl (ldRow hk66 underlying31 rfl isz31) (ldCell hk67 (isAgg3 _) rfl) (ldCell hkw65 (isAgg35 _) rfl), ret_val (by unfold objwV; rw [hxo, ha0]; rfl), hB70⟩)
    refine WL.stL rfl rfl hk47 isz31 rfl rfl (fun w71 hkw71 huw71 hsw71 => ?_)
    have hk72 := hk48.upd huw71 (by ((try simp only) <;> omega))
    have hk73 := hk49.upd huw71 (by ((try simp only) <;> omega))
    have hk74 := hk50.upd huw71 (by ((try simp only) <;> omega))
    have hB76 := Upd.below hB52 (by omega) huw71
    refine WL.nil <| ?_
    refine WY.br1 4 rfl ?_
    refine WL.r (Rd.ld (isAgg3 _) rfl hk74 rfl) rfl <| WL.nil <| ?_
    refine WY.br1 6 rfl ?_
    refine WL.st sizeOf3 rfl rfl rfl hk72 (by first | decide | exact Nat.le_of_ble_eq_true rfl) (fun w77 hkw77 huw77 hsw77 => ?_)
    have hkw77 : Blk w77 b5 _ _ := hkw77
    have huw77 : Upd b5 _ _ := huw77
    have hk78 := hkw71.upd huw77 (by ((try simp only) <;> omega))
    have hk79 := hk73.upd huw77 (by ((try simp only) <;> omega))
    have hB82 := Upd.below hB76 (by omega) huw77
    refine WL.nil <| ?_
    refine WY.br1 7 rfl ?_
    refine WL.st sizeOf35 rfl rfl rfl hk79 (by first | decide | exact Nat.le_of_ble_eq_true rfl) (fun w83 hkw83 huw83 hsw83 => ?_)
    have hkw83 : Blk w83 b11 _ _ := hkw83
    have huw83 : Upd b11 _ _ := huw83
    have hk84 := hk78.upd huw83 (by ((try simp only) <;> omega))
    have hk85 := hkw77.upd huw83 (by ((try simp only) <;> omega))
    have hB88 := Upd.below hB82 (by omega) huw83
    refine WL.nil <| ?_
    refine WY.done (by kernel_rfl) ?_
    refine W.ret ?_
    exact PostD.ret hb41 (fun w' => _) (plex_quiet b1 b5 b11 _ hkw83)
      (fun w' hS => by subst hS; exact ⟨_, ResOk.cells3 rfl rfl rfl rfl (ldRow hk84 underlying31 rfl isz31) (ldCell hk85 (isAgg3 _) rfl) (ldCell hkw83 (isAgg35 _) rfl), ret_val (by unfold objwV; rw [hxo, ha0]; rfl), hB88⟩)
  refine WL.r (Rd.ld (isAgg3 _) rfl hk50 rfl) rfl <| WL.nil <| ?_
  refine WY.br1 0 rfl ?_
  refine WL.r (Rd.ldA rfl hk47 underlying31 rfl isz31) rfl <| WL.nil <| ?_
  refine WY.br1 5 rfl ?_
  refine WL.stL rfl rfl hk47 isz31 rfl rfl (fun w89 hkw89 huw89 hsw89 => ?_)
  have hk90 := hk48.upd huw89 (by ((try simp only) <;> omega))
  have hk91 := hk49.upd huw89 (by ((try simp only) <;> omega))
  have hB94 := Upd.below hB52 (by omega) huw89
  refine WL.nil <| ?_
  refine WY.br1 6 rfl ?_
  refine WL.st sizeOf3 rfl rfl rfl hk90 (by first | decide | exact Nat.le_of_ble_eq_true rfl) (fun w95 hkw95 huw95 hsw95 => ?_)
  have hkw95 : Blk w95 b5 _ _ := hkw95
  have huw95 : Upd b5 _ _ := huw95
  have hk96 := hkw89.upd huw95 (by ((try simp only) <;> omega))
  have hk97 := hk91.upd huw95 (by ((try simp only) <;> omega))
  have hB100 := Upd.below hB94 (by omega) huw95
  refine WL.nil <| ?_
  refine WY.br1 7 rfl ?_
  refine WL.st sizeOf35 rfl rfl rfl hk97 (by first | decide | exact Nat.le_of_ble_eq_true rfl) (fun w101 hkw101 huw101 hsw101 => ?_)
  have hkw101 : Blk w101 b11 _ _ := hkw101
  have huw101 : Upd b11 _ _ := huw101
  have hk102 := hk96.upd huw101 (by ((try simp only) <;> omega))
  have hk103 := hkw95.upd huw101 (by ((try simp only) <;> omega))
  have hB106 := Upd.below hB100 (by omega) huw101
  refine WL.nil <| ?_
  refine WY.done (by kernel_rfl) ?_
  refine W.ret ?_
  exact PostD.ret hb41 (fun w' => _) (plex_quiet b1 b5 b11 _ hkw101)
    (fun w' hS => by subst hS; exact ⟨_, ResOk.cells3 rfl rfl rfl rfl (ldRow hk102 underlying31 rfl isz31) (ldCell hk103 (isAgg3 _) rfl) (ldCell hkw101 (isAgg35 _) rfl), ret_val (by unfold objwV; rw [hxo, ha0]; rfl), hB106⟩)
end Go.Proofs.YtjghbcjnplcleaaGreatDoor

namespace Go.Proofs.YtjghbcjnplcleaaGreatDoor
open Go.Proofs.Tryz
open Go.RowKit Go.WideShapes Go.ChangeShapes
theorem fold_set : ∀ (vs : List Value) (s o : Nat) (pre mid post : List Value), pre.length = o + s → mid.length = vs.length →
  (vs.zipIdx s).foldl (fun (cs : Array Value) (x : Value × Nat) => cs.setIfInBounds (o + x.2) x.1) (pre ++ mid ++ post).toArray = (pre ++ vs ++ post).toArray
 | [], s, o, pre, mid, post, h1, h2 => by
  obtain rfl : mid = [] := List.length_eq_zero_iff.1 (by simpa using h2)
  rfl
 | v :: r, s, o, pre, [], post, h1, h2 => by simp at h2
 | v :: r, s, o, pre, m0 :: mr, post, h1, h2 => by
  have ih := fold_set r (s + 1) o (pre ++ [v]) mr post (by simp; omega) (by simpa using h2)
  rw [List.zipIdx_cons, List.foldl_cons]
  have e : (pre ++ m0 :: mr ++ post).toArray.setIfInBounds (o + s) v = (pre ++ [v] ++ mr ++ post).toArray := by
   rw [← h1]
   simp
  rw [e, ih]
  simp
theorem fill_flat {α : Type} (L : Lay α) : ∀ (xs : List α) (i : Nat) (pre post : List Value), pre.length = i * L.m → post.length = xs.length * L.m →
  Instr.fill (fun i => some (i * L.m, L.m)) (pre ++ post).toArray ((List.range' i xs.length).zip (xs.map fun x => Value.agg (L.V x).toArray)) = some (pre ++ L.flat xs).toArray
 | [], i, pre, post, h1, h2 => by
  obtain rfl : post = [] := List.length_eq_zero_iff.1 (by simpa using h2)
  rfl
 | x :: r, i, pre, post, h1, h2 => by
  have hlx := L.len x
  have h2' : post.length = r.length * L.m + L.m := by rw [h2, List.length_cons, Nat.succ_mul]
  have ih := fill_flat L r (i + 1) (pre ++ L.V x) (post.drop L.m) (by rw [List.length_append, h1, hlx, Nat.succ_mul]) (by rw [List.length_drop]; omega)
  have hf := fold_set (L.V x) 0 (i * L.m) pre (post.take L.m) (post.drop L.m) (by omega) (by rw [List.length_take, hlx]; omega)
  rw [List.append_assoc pre, List.take_append_drop] at hf
  have hc : (Value.agg (L.V x).toArray).cells = (L.V x).toArray := rfl
  rw [List.length_cons, List.range'_succ, List.map_cons, List.zip_cons_cons]
  conv => lhs; unfold Instr.fill
  simp only [hc]
  rw [if_neg (by simp [hlx]; omega)]
  refine Eq.trans (congrArg (fun c => Instr.fill (fun i => some (i * L.m, L.m)) c ((List.range' (i + 1) r.length).zip (r.map fun x => Value.agg (L.V x).toArray))) ?_) (ih.trans (by simp [Lay.flat]))
  rw [← hf]
  simp
section
variable {P : Program} {n : Sh} {f : Fr} {α : Type} {L : Lay α}
/-- a slice made of its structs -/
theorem WL.bslM {ops : Array Oper} {Q : Exit → Fr → World → Prop} {w : World} {rest : List Oper} {d ty : Nat} {pos : String} {aft : Array Edge} {t e : TypeId} {len : Nat} {ps : List (Nat × Operand)} {vs : List Value} {z : Value} (xs : List α)
  (hu : P.underlying t = some (.slice e)) (hs : ∀ w, (sizeOf e).run P w = .ok L.m w) (hz : ∀ w, (zeroValue e).run P w = .ok z w) (_hzs : z.cells.size = L.m) (hl0 : Nat.blt 0 len = true) (hl1 : Nat.ble (len * L.m) 1000 = true)
  (hx : evs f (ps.map (·.2)) = some vs) (hi : ps.map (·.1) = List.range' 0 len) (hv : vs = xs.map fun x => Value.agg (L.V x).toArray) (hl : len = xs.length) (hd : Nat.blt d n.n = true)
  (k : ∀ b w1, b = w.heap.size → OwnM L e b w1 (.slice (some ⟨b, 0, none⟩) len len) xs → Upd b w w1 → w1.heap.size = b + 1 → WL P n ops Q rest ((d, .slice (some ⟨b, 0, none⟩) len len) :: f) w1) :
  WL P n ops Q (⟨some d, .buildSlice t len ps.toArray, ty, pos, aft, none⟩ :: rest) f w := by
 have h0 : 0 < len := by simpa [Nat.blt_eq] using hl0
 have h1 : len * L.m ≤ 1000 := by simpa using hl1
 have hlm : len ≤ len * L.m := Nat.le_mul_of_pos_right _ L.pos
 refine WL.run hd (w' := w.alloc (.cells (L.flat xs).toArray e)) (v := .slice (some ⟨w.heap.size, 0, none⟩) len len) (fun ρ hρ => ?_) (k _ _ rfl (.inr ⟨w.heap.size, len, _, by rw [← hl], Nat.le_refl _, Blk.alloc _ _ _, by rw [← hl]; exact Nat.le_refl _, by unfold maxLen; omega, by rw [List.size_toArray, L.flat_len, ← hl]; exact Nat.le_refl _, by show (L.flat xs).take _ = _; rw [List.take_of_length_le (by rw [L.flat_len]; exact Nat.le_refl _)]⟩) (Upd.alloc _ _) (by simp))
 have e1 := evs_map hρ _ _ hx
 have e2 : (ps.toArray.map fun (i, x) => (i, ρ x)).toList = (ps.map (·.1)).zip vs := by
  rw [← e1]
  simp only [List.map_map, Array.toList_map]
  clear hx hi hv e1
  induction ps with
  | nil => rfl
  | cons p r ih => simpa using ih
 have hfill := fill_flat L xs 0 [] ((Array.range (len * L.m)).map (fun x => z.cells[x % z.cells.size]!)).toList (by simp) (by simp [hl])
 simp only [List.nil_append, Array.toArray_toList] at hfill
 rw [hi, hl, hv] at e2
 rw [← hl] at e2 hfill
 have hne : ¬ len * L.m = 0 := by omega
 have hbig : ¬ 16777216 < len * L.m := by omega
 unfold execOp
 simp only [Instr.buildSlice, Sem.run_bind, run_underlying hu, hs, Result.andThen_ok, e2]
 rw [if_neg (by omega), if_neg hne]
 simp only [Sem.run_bind, hz, Sem.run_pure, Result.andThen_ok, hfill]
 simp [newRow]
end
theorem OwnM.rowp {α : Type} {L : Lay α} {e : TypeId} {B n c : Nat} {w : World} {p : Option Addr} {l : List α} (h : OwnM L e B w (.slice p n c) l) : RowM L w p l := by
 obtain ⟨p', c', hv, hr, -⟩ := h.row
 cases hv
 exact hr
end Go.Proofs.YtjghbcjnplcleaaGreatDoor

namespace Go.Proofs.YtjghbcjnplcleaaGreatDoor
open Go.Proofs.Tryz
open Go.RowKit
/-- an object -/
inductive PV where
 | mk (kind n : Int) (text : List UInt8) (keys : List (List UInt8)) (list : List PV)
/-- an object's cells -/
structure PC where
 kind : Int
 n : Int
 text : List UInt8
 kp : Option Addr
 kl : Nat
 kc : Nat
 lp : Option Addr
 ll : Nat
 lc : Nat
def pcV (x : PC) : List Value := [.int .i64 x.kind, .int .i64 x.n, .string (bs x.text), .slice x.kp x.kl x.kc, .slice x.lp x.ll x.lc, .slice none 0 0]
def pcL : Lay PC := ⟨6, pcV, by decide, fun _ => rfl, fun x u hu => List.all_eq_true.1 (show (pcV x).all Value.oneCell' = true from rfl) u hu⟩
def pc0 (k n : Int) (s : List UInt8) : PC := ⟨k, n, s, none, 0, 0, none, 0, 0⟩
def pv0 (k n : Int) (s : List UInt8) : PV := .mk k n s [] []
/-- strings as elements -/
def strL : Lay (List UInt8) := ⟨1, fun s => [.string (bs s)], by decide, fun _ => rfl, fun x u hu => by simp only [List.mem_singleton] at hu; subst hu; rfl⟩
theorem RowM.lit {α : Type} {V : Lay α} {w : World} {b : Nat} {cs : Array Value} {t : TypeId} {l : List α} (h : Blk w b cs t) (e : cs = (V.flat l).toArray) : RowM V w (some ⟨b, 0, none⟩) l := by
 subst e
 refine RowM.of_flat (fun _ => rfl) fun k v hk => ?_
 show w.cell? ((⟨b, 0, none⟩ : Addr).add k) = _
 rw [add_lit, Nat.zero_add, h.cell k]
 simpa using hk
theorem RowM.strs {w : World} {p : Option Addr} {l : List (List UInt8)} (h : RowM strL w p l) : RowAt strV w p l := ⟨h.isp, fun j hj => by
 have := h.cells j hj 0 (by decide)
 rw [show j * strL.m + 0 = j by show j * 1 + 0 = j; omega] at this
 exact this⟩
/-- a row of strings that is the call's own, within blocks of S -/
def StrsAt (S : Nat → Prop) (w : World) (v : Value) (l : List (List UInt8)) : Prop := OwnM strL 9 0 w v l ∧ ∀ g, v.ownBlock = some g → S g
def RowIn (S : Nat → Prop) (w : World) (v : Value) (cs : List PC) : Prop := OwnM pcL 31 0 w v cs ∧ ∀ g, v.ownBlock = some g → S g
/-- cells that hold an object; all that they lead to lies in blocks of S -/
inductive PRep (w : World) (S : Nat → Prop) : PC → PV → Prop
 | mk (x : PC) (keys : List (List UInt8)) (list : List PV) (cs : List PC) (hk : StrsAt S w (.slice x.kp x.kl x.kc) keys) (hr : RowIn S w (.slice x.lp x.ll x.lc) cs) (hlen : cs.length = list.length)
   (hsub : ∀ i (h : i < cs.length) (h2 : i < list.length), PRep w S cs[i] list[i]) : PRep w S x (.mk x.kind x.n x.text keys list)
theorem PRep.zero (w : World) (S : Nat → Prop) (k n : Int) (s : List UInt8) : PRep w S (pc0 k n s) (pv0 k n s) :=
 PRep.mk (pc0 k n s) [] [] [] ⟨OwnM.nil _ _ _ _, fun g h => by cases h⟩ ⟨OwnM.nil _ _ _ _, fun g h => by cases h⟩ rfl fun i h => by simp at h
theorem StrsAt.same {S : Nat → Prop} {w w1 : World} {v : Value} {l : List (List UInt8)} (h : StrsAt S w v l) (hb : ∀ k, S k → k < w.heap.size → w1.heap[k]? = w.heap[k]?) : StrsAt S w1 v l :=
 ⟨h.1.same fun g hg => hb g (h.2 g hg) (h.1.lt g hg).2, h.2⟩
theorem RowIn.same {S : Nat → Prop} {w w1 : World} {v : Value} {l : List PC} (h : RowIn S w v l) (hb : ∀ k, S k → k < w.heap.size → w1.heap[k]? = w.heap[k]?) : RowIn S w1 v l :=
 ⟨h.1.same fun g hg => hb g (h.2 g hg) (h.1.lt g hg).2, h.2⟩
theorem PRep.same {S : Nat → Prop} {w w1 : World} {x : PC} {o : PV} (h : PRep w S x o) (hb : ∀ k, S k → k < w.heap.size → w1.heap[k]? = w.heap[k]?) : PRep w1 S x o := by
 induction h with
 | mk x keys list cs hk hr hlen _ ih => exact .mk x keys list cs (hk.same hb) (hr.same hb) hlen ih
theorem PRep.mono {S T : Nat → Prop} {w : World} {x : PC} {o : PV} (h : PRep w S x o) (hST : ∀ k, S k → k < w.heap.size → T k) : PRep w T x o := by
 induction h with
 | mk x keys list cs hk hr hlen _ ih => exact .mk x keys list cs ⟨hk.1, fun g hg => hST g (hk.2 g hg) (hk.1.lt g hg).2⟩ ⟨hr.1, fun g hg => hST g (hr.2 g hg) (hr.1.lt g hg).2⟩ hlen ih
end Go.Proofs.YtjghbcjnplcleaaGreatDoor

namespace Go.Proofs.YtjghbcjnplcleaaGreatDoor
open Go.Proofs.Tryz
open Go.RowKit
/-- a name's bytes -/
def decN : List UInt8 → Option (List UInt8)
 | [] => some []
 | [c] => if c = 35 then none else some [c]
 | [c, a] => if c = 35 then none else (decN [a]).map (c :: ·)
 | c :: a :: b :: r =>
  if c = 35 then (if hexN a < 16 ∧ hexN b < 16 then (decN r).map (ch ((16 * hexN a + hexN b : Nat) : Int) :: ·) else none)
  else (decN (a :: b :: r)).map (c :: ·)
def nameP (l : List UInt8) (t : Nat) : Except Int (List UInt8 × Nat) :=
 match decN (wordL l t) with
 | none => .error 23
 | some out => if out = [] ∨ 0 ∈ out then .error 23 else if 127 < out.length then .error 25 else .ok (out, wordAt l t)
/-- does a string in brackets stand open at the bytes' end -/
def pOpen (c : UInt8) : Bool := c != 62 && (blankB c || decide (hexN c < 16))
def openB (l : List UInt8) (t : Nat) : Bool := if l[t]? = some 60 then (l.drop (t + 1)).all pOpen else true
def textR (l : List UInt8) (t : Nat) : Except Int (List UInt8 × Nat) :=
 if (nextR l t).e = 14 ∧ openB l t = true then .error 24
 else if (nextR l t).e = 9 then .error 25
 else if (nextR l t).e ≠ 0 ∨ (nextR l t).k ≠ 6 then .error 23
 else .ok ((nextR l t).s, (nextR l t).at'.toNat)
abbrev ObjE := Except Int (PV × Nat)
def listP (obj : Nat → ObjE) (l : List UInt8) : Nat → List PV → Nat → Except Int (List PV × Nat)
 | 0, _, _ => .error 24
 | f + 1, acc, t =>
  match l[skipAt false l t]? with
  | none => .error 24
  | some c =>
   if c = 93 then .ok (acc, skipAt false l t + 1)
   else if 65535 ≤ acc.length then .error 25
   else match obj (skipAt false l t) with
    | .error k => .error k
    | .ok (o, t') => listP obj l f (acc ++ [o]) t'
def pairsP (obj : Nat → ObjE) (l : List UInt8) : Nat → List (List UInt8) → List PV → Nat → Except Int (List (List UInt8) × List PV × Nat)
 | 0, _, _, _ => .error 24
 | f + 1, ks, os, t =>
  match l[skipAt false l t]? with
  | none => .error 24
  | some c =>
   if c = 62 ∧ l.length ≤ skipAt false l t + 1 then .error 24
   else if c = 62 ∧ l[skipAt false l t + 1]? = some 62 then .ok (ks, os, skipAt false l t + 2)
   else if c ≠ 47 then .error 23
   else match nameP l (skipAt false l t + 1) with
    | .error k => .error k
    | .ok (k, t1) =>
     if k ∈ ks then .error 23
     else if 65535 ≤ os.length then .error 25
     else match l[skipAt false l t1]? with
      | none => .error 24
      | some _ => match obj (skipAt false l t1) with
       | .error k => .error k
       | .ok (o, t') => pairsP obj l f (ks ++ [k]) (os ++ [o]) t'
def textP (l : List UInt8) (t : Nat) : ObjE := match textR l t with | .error k => .error k | .ok (s, t') => .ok (pv0 5 0 s, t')
def nameO (l : List UInt8) (t : Nat) : ObjE := match nameP l t with | .error k => .error k | .ok (s, t') => .ok (pv0 4 0 s, t')
def listO (r : Except Int (List PV × Nat)) : ObjE := match r with | .error k => .error k | .ok (os, t') => .ok (.mk 6 0 [] [] os, t')
def pairsO (r : Except Int (List (List UInt8) × List PV × Nat)) : ObjE := match r with | .error k => .error k | .ok (ks, os, t') => .ok (.mk 7 0 [] ks os, t')
def plainO (X : WR) : ObjE := if X.ok then .ok (pv0 X.kind X.n [], X.np) else .error 23
/-- the object at a place; d: how many lists may be within one another -/
def objP (refs : Bool) (l : List UInt8) : Nat → Nat → ObjE
 | 0, t =>
  match l[t]? with
  | none => .error 24
  | some c =>
   if c = 47 then nameO l (t + 1)
   else if c = 91 then .error 25
   else if c = 40 then textP l t
   else if c = 60 then (if l.length ≤ t + 1 then .error 24 else if l[t + 1]? ≠ some 60 then textP l t else .error 25)
   else plainO (plexW refs l t)
 | d + 1, t =>
  match l[t]? with
  | none => .error 24
  | some c =>
   if c = 47 then nameO l (t + 1)
   else if c = 91 then listO (listP (objP refs l d) l (l.length + 1) [] (t + 1))
   else if c = 40 then textP l t
   else if c = 60 then (if l.length ≤ t + 1 then .error 24 else if l[t + 1]? ≠ some 60 then textP l t else pairsO (pairsP (objP refs l d) l (l.length + 1) [] [] (t + 2)))
   else plainO (plexW refs l t)
end Go.Proofs.YtjghbcjnplcleaaGreatDoor

namespace Go.Proofs.YtjghbcjnplcleaaGreatDoor
open Go.Proofs.Tryz
open Go.RowKit
/-- a hexadecimal digit's number, or -1 -/
def digI (c : UInt8) : Int := match hexD c with | some d => (d : Int) | none => -1
theorem digI_cases (c : UInt8) : digI c = -1 ∧ 15 < hexN c ∨ digI c = hexN c ∧ hexN c < 16 := by
 unfold digI hexD
 by_cases h : hexN c < 16
 ·
  rw [if_pos h]; exact Or.inr ⟨rfl, h⟩
 ·
  rw [if_neg h]; exact Or.inl ⟨rfl, by omega⟩
theorem scan_digit (c : UInt8) (w : World) :
  Calls Tryz.prog 257 #[.int .u8 (c.toNat : Int)] w fun e w' => e = .returned (.int .i64 (digI c)) ∧ w = w' := by
 obtain ⟨R, hR⟩ : ∃ R : Int, R = digI c := ⟨_, rfl⟩
 rw [← hR]
 have hR' : R = if 48 ≤ c.toNat ∧ c.toNat ≤ 57 then (c.toNat : Int) - 48 else if 97 ≤ c.toNat ∧ c.toNat ≤ 102 then (c.toNat : Int) - 87 else if 65 ≤ c.toNat ∧ c.toNat ≤ 70 then (c.toNat : Int) - 55 else -1 := by
  rw [hR]; unfold digI hexD
  by_cases h1 : 48 ≤ c.toNat ∧ c.toNat ≤ 57
  ·
   rw [show hexN c = c.toNat - 48 by unfold hexN; rw [if_pos h1], if_pos (by omega), if_pos h1]; show ((c.toNat - 48 : Nat) : Int) = _; omega
  ·
   rw [if_neg h1]
   by_cases h2 : 97 ≤ c.toNat ∧ c.toNat ≤ 102
   ·
    rw [show hexN c = c.toNat - 87 by unfold hexN; rw [if_neg h1, if_pos (by omega)], if_pos (by omega), if_pos h2]; show ((c.toNat - 87 : Nat) : Int) = _; omega
   ·
    rw [if_neg h2]
    by_cases h3 : 65 ≤ c.toNat ∧ c.toNat ≤ 70
    ·
     rw [show hexN c = c.toNat - 55 by unfold hexN; rw [if_neg h1, if_neg (by omega), if_pos (by omega)], if_pos (by omega), if_pos h3]; show ((c.toNat - 55 : Nat) : Int) = _; omega
    ·
     rw [if_neg h3, if_neg]
     unfold hexN; rw [if_neg h1]
     split
     ·
      omega
     ·
      split <;> omega
 have hc : c.toNat < 256 := UInt8.toNat_lt c
 refine W.enter func257 rfl ntmps257 (Nat.le_of_ble_eq_true rfl) ?_
 refine W.seq <| W.reg <| WL.p (.as rfl) rfl <| WL.nil <| ?_
 refine W.seq <| W.block <| W.seq <| W.reg <| WL.p (.mv rfl) rfl <| WL.p (.geq rfl rfl) rfl <| WL.p (.mv rfl) rfl <| WL.gd rfl rfl rfl (fun g1 => ?_) (fun g1 => ?_)
 ·
  have g1' := of_decide_eq_true g1
  refine WL.p (.mv rfl) rfl <| WL.gy rfl rfl rfl g1 <| WL.p (.leq rfl rfl) rfl <| WL.p (.pkT rfl g1 rfl) rfl <| WL.p (.as rfl) rfl <| WL.nil <| ?_
  refine W.cond rfl (fun h2 => ?_) (fun h2 => ?_)
  ·
   have h2' := of_decide_eq_true h2
   refine W.seq <| W.reg <| WL.p (.mv rfl) rfl <| WL.p (.sub rfl rfl (u8w (by omega))) rfl <| WL.p (.cvt underlying5 underlying3 rfl (i64w (by omega))) rfl <| WL.p (.as rfl) rfl <| WL.nil <| ?_
   refine W.ret (W.ret1 rfl rfl ?_)
   exact ⟨ret_int (by rw [hR']; (repeat' split) <;> omega), rfl⟩
  have h2' := of_decide_eq_false h2
  refine W.seq <| W.reg <| WL.p (.mv rfl) rfl <| WL.p (.geq rfl rfl) rfl <| WL.p (.mv rfl) rfl <| WL.gd rfl rfl rfl (fun g3 => ?_) (fun g3 => ?_)
  ·
   have g3' := of_decide_eq_true g3
   refine WL.p (.mv rfl) rfl <| WL.gy rfl rfl rfl g3 <| WL.p (.leq rfl rfl) rfl <| WL.p (.pkT rfl g3 rfl) rfl <| WL.p (.as rfl) rfl <| WL.nil <| ?_
   refine W.cond rfl (fun h4 => ?_) (fun h4 => ?_)
   ·
    have h4' := of_decide_eq_true h4
    refine W.seq <| W.reg <| WL.p (.mv rfl) rfl <| WL.p (.sub rfl rfl (u8w (by omega))) rfl <| WL.p (.cvt underlying5 underlying3 rfl (i64w (by omega))) rfl <| WL.p (.add rfl rfl (i64w (by omega))) rfl <| WL.p (.as rfl) rfl <| WL.nil <| ?_
    refine W.ret (W.ret1 rfl rfl ?_)
    exact ⟨ret_int (by rw [hR']; (repeat' split) <;> omega), rfl⟩
   have h4' := of_decide_eq_false h4
   refine W.seq <| W.reg <| WL.p (.mv rfl) rfl <| WL.p (.geq rfl rfl) rfl <| WL.p (.mv rfl) rfl <| WL.gd rfl rfl rfl (fun g5 => ?_) (fun g5 => ?_)
   ·
    have g5' := of_decide_eq_true g5
    refine WL.p (.mv rfl) rfl <| WL.gy rfl rfl rfl g5 <| WL.p (.leq rfl rfl) rfl <| WL.p (.pkT rfl g5 rfl) rfl <| WL.p (.as rfl) rfl <| WL.nil <| ?_
    refine W.cond rfl (fun h6 => ?_) (fun h6 => ?_)
    ·
     have h6' := of_decide_eq_true h6
     refine W.seq <| W.reg <| WL.p (.mv rfl) rfl <| WL.p (.sub rfl rfl (u8w (by omega))) rfl <| WL.p (.cvt underlying5 underlying3 rfl (i64w (by omega))) rfl <| WL.p (.add rfl rfl (i64w (by omega))) rfl <| WL.p (.as rfl) rfl <| WL.nil <| ?_
     refine W.ret (W.ret1 rfl rfl ?_)
     exact ⟨ret_int (by rw [hR']; (repeat' split) <;> omega), rfl⟩
    have h6' := of_decide_eq_false h6
    refine W.skip <| W.seq <| W.reg <| WL.p (.as rfl) rfl <| WL.nil <| ?_
    refine W.ret (W.ret1 rfl rfl ?_)
    exact ⟨ret_int (by rw [hR']; (repeat' split) <;> omega), rfl⟩
   have g5' := of_decide_eq_false g5
   refine WL.gn rfl rfl rfl g5 <| WL.p (.pkF rfl g5 rfl) rfl <| WL.p (.as rfl) rfl <| WL.nil <| ?_
   refine W.condF rfl rfl ?_
   refine W.skip <| W.seq <| W.reg <| WL.p (.as rfl) rfl <| WL.nil <| ?_
   refine W.ret (W.ret1 rfl rfl ?_)
   exact ⟨ret_int (by rw [hR']; (repeat' split) <;> omega), rfl⟩
  have g3' := of_decide_eq_false g3
  refine WL.gn rfl rfl rfl g3 <| WL.p (.pkF rfl g3 rfl) rfl <| WL.p (.as rfl) rfl <| WL.nil <| ?_
  refine W.condF rfl rfl ?_
  refine W.seq <| W.reg <| WL.p (.mv rfl) rfl <| WL.p (.geq rfl rfl) rfl <| WL.p (.mv rfl) rfl <| WL.gd rfl rfl rfl (fun g7 => ?_) (fun g7 => ?_)
  ·
   have g7' := of_decide_eq_true g7
   refine WL.p (.mv rfl) rfl <| WL.gy rfl rfl rfl g7 <| WL.p (.leq rfl rfl) rfl <| WL.p (.pkT rfl g7 rfl) rfl <| WL.p (.as rfl) rfl <| WL.nil <| ?_
   refine W.cond rfl (fun h8 => ?_) (fun h8 => ?_)
   ·
    have h8' := of_decide_eq_true h8
    refine W.seq <| W.reg <| WL.p (.mv rfl) rfl <| WL.p (.sub rfl rfl (u8w (by omega))) rfl <| WL.p (.cvt underlying5 underlying3 rfl (i64w (by omega))) rfl <| WL.p (.add rfl rfl (i64w (by omega))) rfl <| WL.p (.as rfl) rfl <| WL.nil <| ?_
    refine W.ret (W.ret1 rfl rfl ?_)
    exact ⟨ret_int (by rw [hR']; (repeat' split) <;> omega), rfl⟩
   have h8' := of_decide_eq_false h8
   refine W.skip <| W.seq <| W.reg <| WL.p (.as rfl) rfl <| WL.nil <| ?_
   refine W.ret (W.ret1 rfl rfl ?_)
   exact ⟨ret_int (by rw [hR']; (repeat' split) <;> omega), rfl⟩
  have g7' := of_decide_eq_false g7
  refine WL.gn rfl rfl rfl g7 <| WL.p (.pkF rfl g7 rfl) rfl <| WL.p (.as rfl) rfl <| WL.nil <| ?_
  refine W.condF rfl rfl ?_
  refine W.skip <| W.seq <| W.reg <| WL.p (.as rfl) rfl <| WL.nil <| ?_
  refine W.ret (W.ret1 rfl rfl ?_)
  exact ⟨ret_int (by rw [hR']; (repeat' split) <;> omega), rfl⟩
 have g1' := of_decide_eq_false g1
 refine WL.gn rfl rfl rfl g1 <| WL.p (.pkF rfl g1 rfl) rfl <| WL.p (.as rfl) rfl <| WL.nil <| ?_
 refine W.condF rfl rfl ?_
 refine W.seq <| W.reg <| WL.p (.mv rfl) rfl <| WL.p (.geq rfl rfl) rfl <| WL.p (.mv rfl) rfl <| WL.gd rfl rfl rfl (fun g9 => ?_) (fun g9 => ?_)
 ·
  have g9' := of_decide_eq_true g9
  refine WL.p (.mv rfl) rfl <| WL.gy rfl rfl rfl g9 <| WL.p (.leq rfl rfl) rfl <| WL.p (.pkT rfl g9 rfl) rfl <| WL.p (.as rfl) rfl <| WL.nil <| ?_
  refine W.cond rfl (fun h10 => ?_) (fun h10 => ?_)
  ·
   have h10' := of_decide_eq_true h10
   refine W.seq <| W.reg <| WL.p (.mv rfl) rfl <| WL.p (.sub rfl rfl (u8w (by omega))) rfl <| WL.p (.cvt underlying5 underlying3 rfl (i64w (by omega))) rfl <| WL.p (.add rfl rfl (i64w (by omega))) rfl <| WL.p (.as rfl) rfl <| WL.nil <| ?_
   refine W.ret (W.ret1 rfl rfl ?_)
   exact ⟨ret_int (by rw [hR']; (repeat' split) <;> omega), rfl⟩
  have h10' := of_decide_eq_false h10
  refine W.seq <| W.reg <| WL.p (.mv rfl) rfl <| WL.p (.geq rfl rfl) rfl <| WL.p (.mv rfl) rfl <| WL.gd rfl rfl rfl (fun g11 => ?_) (fun g11 => ?_)
  ·
   have g11' := of_decide_eq_true g11
   refine WL.p (.mv rfl) rfl <| WL.gy rfl rfl rfl g11 <| WL.p (.leq rfl rfl) rfl <| WL.p (.pkT rfl g11 rfl) rfl <| WL.p (.as rfl) rfl <| WL.nil <| ?_
   refine W.cond rfl (fun h12 => ?_) (fun h12 => ?_)
   ·
    have h12' := of_decide_eq_true h12
    refine W.seq <| W.reg <| WL.p (.mv rfl) rfl <| WL.p (.sub rfl rfl (u8w (by omega))) rfl <| WL.p (.cvt underlying5 underlying3 rfl (i64w (by omega))) rfl <| WL.p (.add rfl rfl (i64w (by omega))) rfl <| WL.p (.as rfl) rfl <| WL.nil <| ?_
    refine W.ret (W.ret1 rfl rfl ?_)
    exact ⟨ret_int (by rw [hR']; (repeat' split) <;> omega), rfl⟩
   have h12' := of_decide_eq_false h12
   refine W.skip <| W.seq <| W.reg <| WL.p (.as rfl) rfl <| WL.nil <| ?_
   refine W.ret (W.ret1 rfl rfl ?_)
   exact ⟨ret_int (by rw [hR']; (repeat' split) <;> omega), rfl⟩
  have g11' := of_decide_eq_false g11
  refine WL.gn rfl rfl rfl g11 <| WL.p (.pkF rfl g11 rfl) rfl <| WL.p (.as rfl) rfl <| WL.nil <| ?_
  refine W.condF rfl rfl ?_
  refine W.skip <| W.seq <| W.reg <| WL.p (.as rfl) rfl <| WL.nil <| ?_
  refine W.ret (W.ret1 rfl rfl ?_)
  exact ⟨ret_int (by rw [hR']; (repeat' split) <;> omega), rfl⟩
 have g9' := of_decide_eq_false g9
 refine WL.gn rfl rfl rfl g9 <| WL.p (.pkF rfl g9 rfl) rfl <| WL.p (.as rfl) rfl <| WL.nil <| ?_
 refine W.condF rfl rfl ?_
 refine W.seq <| W.reg <| WL.p (.mv rfl) rfl <| WL.p (.geq rfl rfl) rfl <| WL.p (.mv rfl) rfl <| WL.gd rfl rfl rfl (fun g13 => ?_) (fun g13 => ?_)
 ·
  have g13' := of_decide_eq_true g13
  refine WL.p (.mv rfl) rfl <| WL.gy rfl rfl rfl g13 <| WL.p (.leq rfl rfl) rfl <| WL.p (.pkT rfl g13 rfl) rfl <| WL.p (.as rfl) rfl <| WL.nil <| ?_
  refine W.cond rfl (fun h14 => ?_) (fun h14 => ?_)
  ·
   have h14' := of_decide_eq_true h14
   refine W.seq <| W.reg <| WL.p (.mv rfl) rfl <| WL.p (.sub rfl rfl (u8w (by omega))) rfl <| WL.p (.cvt underlying5 underlying3 rfl (i64w (by omega))) rfl <| WL.p (.add rfl rfl (i64w (by omega))) rfl <| WL.p (.as rfl) rfl <| WL.nil <| ?_
   refine W.ret (W.ret1 rfl rfl ?_)
   exact ⟨ret_int (by rw [hR']; (repeat' split) <;> omega), rfl⟩
  have h14' := of_decide_eq_false h14
  refine W.skip <| W.seq <| W.reg <| WL.p (.as rfl) rfl <| WL.nil <| ?_
  refine W.ret (W.ret1 rfl rfl ?_)
  exact ⟨ret_int (by rw [hR']; (repeat' split) <;> omega), rfl⟩
 have g13' := of_decide_eq_false g13
 refine WL.gn rfl rfl rfl g13 <| WL.p (.pkF rfl g13 rfl) rfl <| WL.p (.as rfl) rfl <| WL.nil <| ?_
 refine W.condF rfl rfl ?_
 refine W.skip <| W.seq <| W.reg <| WL.p (.as rfl) rfl <| WL.nil <| ?_
 refine W.ret (W.ret1 rfl rfl ?_)
 exact ⟨ret_int (by rw [hR']; (repeat' split) <;> omega), rfl⟩
theorem scan_name (k : Int) (s : List UInt8) (w : World) (hs : s.length ≤ 100000000) :
  Calls Tryz.prog 207 #[.int .i64 k, .string (bs s)] w (Ends 35 (if 127 < s.length then .error 9 else .ok (⟨k, 0, s⟩ : TokV)) TokV.val (fun _ w' => Below w.heap.size w w') (fun w' => Below w.heap.size w w')) := by
 refine W.enter func207 rfl ntmps207 (Nat.le_of_ble_eq_true rfl) ?_
 have hB0 := Below.refl (w.heap.size) w
 refine W.seq <| W.reg <| WL.alloc zeroValue143 rfl (fun b1 wb1 eb1 hkb1 hub1 hsb1 => ?_)
 have hB2 := Upd.below hB0 (by rw [eb1]; exact hB0.size) hub1
 have hgeb1 : w.heap.size ≤ b1 := by rw [eb1]; exact hB0.size
 refine WL.nil <| ?_
 refine W.seq <| W.seq <| W.reg <| WL.p (.mv rfl) rfl <| WL.p (.len underlying9 rfl) rfl <| WL.p (.gtr rfl rfl) rfl <| WL.nil <| ?_
 refine W.cond rfl (fun h3 => ?_) (fun h3 => ?_)
 ·
  have h3' := of_decide_eq_true h3
  refine W.reg <| WL.p (.mkI underlying35 rfl) rfl <| WL.panic rfl (pn_is ?_)
  exact Ends.err 9 (by rw [if_pos (by omega)]) hB2
 have h3' := of_decide_eq_false h3
 refine W.skip <| W.seq <| W.reg <| WL.p (.mv rfl) rfl <| WL.p (.mv rfl) rfl <| ?_
 refine WL.p (.buildL (ps := _) blt143 rfl rfl rfl (by simp only [put1, List.map, List.zip, List.zipWith, List.set] <;> rfl)) rfl ?_
 refine WL.stL rfl rfl hkb1 isz143 rfl rfl (fun w4 hkw4 huw4 hsw4 => ?_)
 have hB5 := Upd.below hB2 (by omega) huw4
 refine WL.nil <| ?_
 refine W.ret (W.retc1 rfl rfl (ldRow hkw4 underlying143 rfl isz143)  ?_)
 exact Ends.ok ⟨k, 0, s⟩ (by rw [if_neg (by omega)]) rfl hB5
theorem scan_text (p : Option Addr) (s : List UInt8) (c : Nat) (w : World) (hb : BytesAt w p s) (hs : s.length ≤ 100000000) :
  Calls Tryz.prog 238 #[.slice p s.length c] w (Ends 35 (if 65535 < s.length then .error 9 else .ok (⟨6, 0, s⟩ : TokV)) TokV.val (fun _ w' => Below w.heap.size w w') (fun w' => Below w.heap.size w w')) := by
 refine W.enter func238 rfl ntmps238 (Nat.le_of_ble_eq_true rfl) ?_
 have hB0 := Below.refl (w.heap.size) w
 refine W.seq <| W.reg <| WL.alloc zeroValue143 rfl (fun b1 wb1 eb1 hkb1 hub1 hsb1 => ?_)
 have hvl3 := fun h0 => eb1 ▸ hb.lt h0
 have hv2 := BytesAt.upd hb hub1 (fun h0 => Nat.ne_of_lt (hvl3 h0))
 have hB4 := Upd.below hB0 (by rw [eb1]; exact hB0.size) hub1
 have hgeb1 : w.heap.size ≤ b1 := by rw [eb1]; exact hB0.size
 refine WL.nil <| ?_
 refine W.seq <| W.seq <| W.reg <| WL.p (.mv rfl) rfl <| WL.p (.lenS underlying22 rfl) rfl <| WL.p (.gtr rfl rfl) rfl <| WL.nil <| ?_
 refine W.cond rfl (fun h5 => ?_) (fun h5 => ?_)
 ·
  have h5' := of_decide_eq_true h5
  refine W.reg <| WL.p (.mkI underlying35 rfl) rfl <| WL.panic rfl (pn_is ?_)
  exact Ends.err 9 (by rw [if_pos (by omega)]) hB4
 have h5' := of_decide_eq_false h5
 refine W.skip <| W.seq <| W.reg <| WL.p (.mv rfl) rfl <| WL.r (Rd.b2s (l := s) underlying22 underlying5 underlying9 rfl (hv2)) rfl <| ?_
 refine WL.p (.buildL (ps := _) blt143 rfl rfl rfl (by simp only [put1, List.map, List.zip, List.zipWith, List.set] <;> rfl)) rfl ?_
 refine WL.stL rfl rfl hkb1 isz143 rfl rfl (fun w6 hkw6 huw6 hsw6 => ?_)
 have hB8 := Upd.below hB4 (by omega) huw6
 refine WL.nil <| ?_
 refine W.ret (W.retc1 rfl rfl (ldRow hkw6 underlying143 rfl isz143)  ?_)
 exact Ends.ok ⟨6, 0, s⟩ (by rw [if_neg (by omega)]) rfl hB8
/-- a regular byte stands there -/
def regT (l : List UInt8) (t : Nat) : Bool := decide (t < l.length) && regB l[t]!
theorem regT_t {l : List UInt8} {t : Nat} (h : regT l t = true) : t < l.length ∧ wordAt l t = wordAt l (t + 1) := by
 unfold regT at h
 simp only [Bool.and_eq_true, decide_eq_true_eq] at h
 obtain ⟨h1, h2⟩ := h
 rw [getElem!_pos l t h1] at h2
 refine ⟨h1, ?_⟩
 unfold wordAt
 rw [takeWhile_drop regB l t h1, if_pos h2, List.length_cons]; omega
theorem regT_f {l : List UInt8} {t : Nat} (h : regT l t = false) : wordAt l t = t := by
 unfold wordAt
 by_cases h1 : t < l.length
 ·
  unfold regT at h
  rw [decide_eq_true h1, Bool.true_and, getElem!_pos l t h1] at h
  rw [takeWhile_drop regB l t h1, if_neg (bF h)]; rfl
 ·
  rw [List.drop_eq_nil_of_le (by omega)]; rfl
theorem regular_q (x : UInt8) (w : World) (m : Nat) : Calls Tryz.prog 240 #[.int .u8 (x.toNat : Int)] (w.drewN m) fun e w' => e = .returned (.bool (regB x)) ∧ ∃ k, w' = w.drewN k :=
 (scan_regular x (w.drewN m)).mono fun e w' h => ⟨h.1, m, h.2.symm⟩
theorem scan_word (r : Nat) (p : Option Addr) (l : List UInt8) (c a : Nat) (w : World) (h : RdOk w r p l c a) (hne : 0 < l.length → (pA p).block ≠ r) (hc : l.length ≤ c) (hl : l.length ≤ 100000000) (ha : a ≤ l.length) :
  Calls Tryz.prog 206 #[.pointer (some ⟨r, 0, none⟩)] w fun e w' => e = .returned (.string (bs ((l.drop a).takeWhile regB))) ∧ RdOk w' r p l c (wordAt l a) ∧ Touch w.heap.size r w w' := by
 have hr := h.1
 have hb := h.2
 refine W.enter func206 rfl ntmps206 (Nat.le_of_ble_eq_true rfl) ?_
 refine W.seq <| W.reg <| WL.p (.as rfl) rfl <| WL.nil <| ?_
 refine W.seq <| W.reg <| WL.p (.mv rfl) rfl <| WL.p (.nck rfl) rfl <| WL.p (.fa underlying185 rfl sizeOf3 (by decide) rfl) rfl <| WL.r (Rd.ld (isAgg3 _) rfl hr rfl) rfl <| WL.p (.as rfl) rfl <| WL.nil <| ?_
 refine W.seq <| W.block ?_
 refine W.loop (α := Nat) (fun t => [(0, .pointer (some ⟨r, 0, none⟩)), (3, .int .i64 (a : Int))]) (fun t w' => RdOk w' r p l c t ∧ Touch w.heap.size r w w' ∧ a ≤ t ∧ t ≤ l.length ∧ wordAt l t = wordAt l a) (fun t => l.length - t) (a) ⟨rfl, rfl, trivial⟩ (⟨h, Touch.refl _ _ _, Nat.le_refl _, ha, rfl⟩) (fun t w1 hR => ?_)
 obtain ⟨hrd, hT, hat, ht, hw⟩ := hR
 refine W.seq ?_
 refine W.cutBQ 22 (regT l t) ?_ (fun w1 dw1 => ?_)
 ·
  skip
  refine W.regQ mixed (by kernel_rfl) ?_
  refine WQ.p (.mv rfl) rfl <| WQ.c1 hb202 rfl rfl (fun m => (more_q r p l c t _ ⟨hrd.1, hrd.2⟩ m)) <| WQ.p (.mv rfl) rfl <| WQ.gd rfl rfl rfl (fun g2 => ?_) (fun g2 => ?_)
  ·
   have g2' := of_decide_eq_true g2
   refine WQ.p (.mv rfl) rfl <| WQ.gy rfl rfl rfl g2 <| WQ.p (.nck rfl) rfl <| WQ.gy rfl rfl rfl g2 <| WQ.p (.fa underlying185 rfl sizeOf22 (by decide) rfl) rfl <| WQ.gy rfl rfl rfl g2 <| WQ.r (fun m => Rd.ld (isAgg22 _) rfl hrd.1 rfl) rfl <| WQ.gy rfl rfl rfl g2 <| WQ.p (.mv rfl) rfl <| WQ.gy rfl rfl rfl g2 <| WQ.p (.nck rfl) rfl <| WQ.gy rfl rfl rfl g2 <| WQ.p (.fa underlying185 rfl sizeOf3 (by decide) rfl) rfl <| WQ.gy rfl rfl rfl g2 <| WQ.r (fun m => Rd.ld (isAgg3 _) rfl hrd.1 rfl) rfl <| WQ.gy rfl rfl rfl g2 <| WQ.p (.ixb underlying22 sizeOf5 rfl rfl (hrd.2.isp (by omega)) (t) (by omega) (by omega)) rfl <| WQ.gy rfl rfl rfl g2 <| WQ.r (fun m => Rd.ldc (isAgg5 _) rfl ((hrd.2.drewN m).cells (t) (by omega))) rfl <| WQ.gy rfl rfl rfl g2 <| WQ.c1 hb240 rfl rfl (fun m => (regular_q _ _ m)) <| WQ.p (.pkT rfl g2 rfl) rfl <| WQ.nil (fun w3 dw3 => ?_)
   exact ⟨⟨lk_b rfl (by (by_cases hq : t < l.length) <;> (unfold regT; first | (exfalso; omega) | (rw [getElem!_pos l t hq, decide_eq_true hq]; rfl) | (rw [decide_eq_false hq]; simp_all; done))), by repeat (first | exact Le.refl _ | refine Le.cons rfl ?_)⟩, dw3⟩
  have g2' := of_decide_eq_false g2
  refine WQ.gn rfl rfl rfl g2 <| WQ.gn rfl rfl rfl g2 <| WQ.gn rfl rfl rfl g2 <| WQ.gn rfl rfl rfl g2 <| WQ.gn rfl rfl rfl g2 <| WQ.gn rfl rfl rfl g2 <| WQ.gn rfl rfl rfl g2 <| WQ.gn rfl rfl rfl g2 <| WQ.gn rfl rfl rfl g2 <| WQ.gn rfl rfl rfl g2 <| WQ.p (.pkF rfl g2 rfl) rfl <| WQ.nil (fun w7 dw7 => ?_)
  exact ⟨⟨lk_b rfl (by (by_cases hq : t < l.length) <;> (unfold regT; first | (exfalso; omega) | (rw [getElem!_pos l t hq, decide_eq_true hq]; rfl) | (rw [decide_eq_false hq]; simp_all; done))), by repeat (first | exact Le.refl _ | refine Le.cons rfl ?_)⟩, dw7⟩
 have hk11 := hrd.1.drew dw1
 have hv12 := hrd.2.drew dw1
 have hB13 := Touch.trans hT (Touch.of_drew dw1)
 refine W.cond rfl (fun h14 => ?_) (fun h14 => ?_)
 ·
  skip
  obtain ⟨hc1, hc2⟩ := regT_t (by assumption)
  refine W.skip <| W.block <| W.reg <| WL.p (.mv rfl) rfl <| WL.p (.nck rfl) rfl <| WL.p (.fa underlying185 rfl sizeOf3 (by decide) rfl) rfl <| WL.r (Rd.ld (isAgg3 _) rfl hk11 rfl) rfl <| WL.p (.iis (((t + 1 : Nat) : Int)) (.add rfl rfl (i64w (by omega))) (by omega)) rfl <| WL.p (.nck rfl) rfl <| WL.p (.fa underlying185 rfl sizeOf3 (by decide) rfl) rfl <| WL.st sizeOf3 rfl rfl rfl hk11 (by first | decide | exact Nat.le_of_ble_eq_true rfl) (fun w15 hkw15 huw15 hsw15 => ?_)
  have hkw15 : Blk w15 r _ _ := hkw15
  have huw15 : Upd r _ _ := huw15
  have hv16 := BytesAt.upd hv12 huw15 hne
  have hB17 := Touch.trans hB13 (Touch.of_upd huw15)
  refine WL.nil <| ?_
  exact ⟨t + 1, ⟨rfl, rfl, trivial⟩, ⟨⟨hkw15, hv16⟩, hB17, by omega, by omega, by omega⟩, by omega⟩
 have hc1 := regT_f (by assumption)
 refine W.exit <| W.seq <| W.regQ mixed (by kernel_rfl) ?_
 refine WQ.p (.mv rfl) rfl <| WQ.p (.nck rfl) rfl <| WQ.p (.fa underlying185 rfl sizeOf22 (by decide) rfl) rfl <| WQ.r (fun m => Rd.ld (isAgg22 _) rfl hk11 rfl) rfl <| WQ.p (.mv rfl) rfl <| WQ.p (.mv rfl) rfl <| WQ.p (.nck rfl) rfl <| WQ.p (.fa underlying185 rfl sizeOf3 (by decide) rfl) rfl <| WQ.r (fun m => Rd.ld (isAgg3 _) rfl hk11 rfl) rfl <| WQ.p (.slb underlying22 sizeOf5 rfl rfl rfl  (a) (t) (rfl) (rfl) (hat) (by omega)) rfl <| WQ.r (fun m => Rd.b2sPart underlying22 underlying5 underlying9 rfl rfl (hv12.drewN m) hat ht hc) rfl <| WQ.p (.as rfl) rfl <| WQ.nil (fun w18 dw18 => ?_)
 have hk19 := hk11.drew dw18
 have hv20 := hv12.drew dw18
 have hB21 := Touch.trans hB13 (Touch.of_drew dw18)
 refine W.ret (W.ret1 rfl rfl ?_)
 exact ⟨ret_val (by rw [← word_take, ← hw, hc1]), ⟨by rw [← hw, hc1]; exact hk19, hv20⟩, hB21⟩
theorem nameS_err {k e : Int} {l : List UInt8} (h : (if 127 < (l.takeWhile regB).length then (.error 9 : Except Int TokV) else .ok ⟨k, 0, l.takeWhile regB⟩) = .error e) : nameS k l = .error e := by
 unfold nameS
 split at h
 ·
  next h1 => rw [if_pos h1]; cases h; rfl
 ·
  cases h
theorem nameS_ok {k : Int} {l : List UInt8} {a : TokV} (h : (if 127 < (l.takeWhile regB).length then (.error 9 : Except Int TokV) else .ok ⟨k, 0, l.takeWhile regB⟩) = .ok a) : nameS k l = .ok (a, l.dropWhile regB) := by
 unfold nameS
 split at h
 ·
  cases h
 ·
  next h1 => rw [if_neg h1]; cases h; rfl
theorem word_len (l : List UInt8) (t : Nat) : ((l.drop t).takeWhile regB).length ≤ l.length := by
 have := (List.takeWhile_sublist regB (l := l.drop t)).length_le
 rw [List.length_drop] at this; omega
/-- a token read: what stands behind -/
def Read (w0 : World) (r : Nat) (p : Option Addr) (l : List UInt8) (c : Nat) (a : TokV × List UInt8) (w' : World) : Prop := ∃ k, a.2 = l.drop k ∧ k ≤ l.length ∧ RdOk w' r p l c k ∧ Touch w0.heap.size r w0 w'
theorem scan_slash (r : Nat) (p : Option Addr) (l : List UInt8) (c t : Nat) (w : World) (h : RdOk w r p l c t) (hne : 0 < l.length → (pA p).block ≠ r) (hc : l.length ≤ c) (hl : l.length ≤ 100000000) (ht : t ≤ l.length) :
  Calls Tryz.prog 205 #[.pointer (some ⟨r, 0, none⟩)] w (Ends 35 (slashS (l.drop t)) (fun a => a.1.val) (Read w r p l c) (fun w' => Touch w.heap.size r w w')) := by
 have hr := h.1
 have hb := h.2
 have hy := slash_eq (l := l) (s := t) (d := (l[t]?).getD 0) rfl
 refine W.enter func205 rfl ntmps205 (Nat.le_of_ble_eq_true rfl) ?_
 have hB0 := Touch.refl (w.heap.size) r w
 refine W.seq <| W.reg <| WL.alloc zeroValue143 rfl (fun b1 wb1 eb1 hkb1 hub1 hsb1 => ?_)
 have hl3 : r < b1 := by rw [eb1]; exact hr.lt
 have hk2 := hr.upd hub1 (Nat.ne_of_lt hl3)
 have hvl5 := fun h0 => eb1 ▸ hb.lt h0
 have hv4 := BytesAt.upd hb hub1 (fun h0 => Nat.ne_of_lt (hvl5 h0))
 have hgeb1 : w.heap.size ≤ b1 := by rw [eb1]; exact hB0.size
 have hB6 := Touch.trans hB0 (Touch.of_new hub1 hgeb1)
 refine WL.nil <| ?_
 refine W.seq <| W.seq <| W.reg <| WL.p (.mv rfl) rfl <| WL.c1 hb237 rfl rfl ((scan_next r p l c t 47 _ ⟨hk2, hv4⟩ hne hl ht)) (fun w7 hw7 => ?_)
 have hk8 := hw7.1.1
 have hk9 := Blk.touch hkb1 hw7.2 hkb1.lt (by omega)
 have hv10 := hw7.1.2
 have hB11 := Touch.trans hB6 (Touch.mono hw7.2 hB6.size)
 refine WL.nil <| ?_
 refine W.cond rfl (fun h12 => ?_) (fun h12 => ?_)
 ·
  skip
  obtain ⟨hn1, hn2⟩ := nextB_t (x := 47) (by assumption)
  rw [if_pos (by assumption)] at hk8
  rw [if_pos (by rw [List.getElem?_eq_getElem hn1, hn2]; rfl)] at hy
  refine W.seq <| W.reg <| WL.p (.mv rfl) rfl <| WL.c1 hb206 rfl rfl ((scan_word r p l c (t + 1) _ ⟨hk8, hv10⟩ hne hc hl (by omega))) (fun w13 hw13 => ?_)
  have hk14 := hw13.1.1
  have hk15 := Blk.touch hk9 hw13.2 hk9.lt (by omega)
  have hv16 := hw13.1.2
  have hB17 := Touch.trans hB11 (Touch.mono hw13.2 hB11.size)
  refine WL.ce hb207 rfl rfl ((scan_name 5 _ _ (by have := word_len l (t + 1); omega))) (fun k20 w18 hrw18 hw18 => ?_) (fun a19 w18 hrw18 hw18 => ?_)
  ·
   skip
   have hBew18 := Touch.trans hB17 (Touch.mono (Touch.of_below hw18) hB17.size)
   exact pn_is (Ends.err k20 (by rw [hy]; exact nameS_err hrw18) hBew18)
  have hk21 := hk14.below hw18 hk14.lt
  have hk22 := hk15.below hw18 hk15.lt
  have hv23 := BytesAt.below hv16 hw18 (fun h0 => hv16.lt h0)
  have hB24 := Touch.trans hB17 (Touch.mono (Touch.of_below hw18) hB17.size)
  obtain ⟨a0, ha0⟩ : ∃ a0, a0 = a19 := ⟨_, rfl⟩
  have hra := hrw18
  refine WL.stL rfl rfl hk22 isz143 rfl rfl (fun w25 hkw25 huw25 hsw25 => ?_)
  have hk26 := hk21.upd huw25 (by ((try simp only) <;> omega))
  have hv27 := BytesAt.upd hv23 huw25 (fun h0 => Nat.ne_of_lt (hvl5 h0))
  have hB28 := Touch.trans hB24 (Touch.of_new huw25 (by omega))
  refine WL.nil <| ?_
  refine W.ret (W.retc1 rfl rfl (ldRow hkw25 underlying143 rfl isz143)  ?_)
  exact Ends.ok (_, l.drop (wordAt l (t + 1))) (by rw [hy, nameS_ok hra, word_drop]) rfl ⟨_, rfl, (wordAt_le l (t + 1) (by omega)).2, ⟨hk26, hv27⟩, hB28⟩
 rw [if_neg (bF (by assumption))] at hk8
 rw [if_neg (by
  by_cases hq : t < l.length
  ·
   rw [List.getElem?_eq_getElem hq]; exact nextB_f (x := 47) (by assumption) hq
  ·
   rw [List.getElem?_eq_none (by omega)]; decide)] at hy
 refine W.skip <| W.seq <| W.reg <| WL.p (.mv rfl) rfl <| WL.c1 hb206 rfl rfl ((scan_word r p l c t _ ⟨hk8, hv10⟩ hne hc hl (by omega))) (fun w29 hw29 => ?_)
 have hk30 := hw29.1.1
 have hk31 := Blk.touch hk9 hw29.2 hk9.lt (by omega)
 have hv32 := hw29.1.2
 have hB33 := Touch.trans hB11 (Touch.mono hw29.2 hB11.size)
 refine WL.ce hb207 rfl rfl ((scan_name 4 _ _ (by have := word_len l t; omega))) (fun k36 w34 hrw34 hw34 => ?_) (fun a35 w34 hrw34 hw34 => ?_)
 ·
  skip
  have hBew34 := Touch.trans hB33 (Touch.mono (Touch.of_below hw34) hB33.size)
  exact pn_is (Ends.err k36 (by rw [hy]; exact nameS_err hrw34) hBew34)
 have hk37 := hk30.below hw34 hk30.lt
 have hk38 := hk31.below hw34 hk31.lt
 have hv39 := BytesAt.below hv32 hw34 (fun h0 => hv32.lt h0)
 have hB40 := Touch.trans hB33 (Touch.mono (Touch.of_below hw34) hB33.size)
 obtain ⟨a0, ha0⟩ : ∃ a0, a0 = a35 := ⟨_, rfl⟩
 have hra := hrw34
 refine WL.stL rfl rfl hk38 isz143 rfl rfl (fun w41 hkw41 huw41 hsw41 => ?_)
 have hk42 := hk37.upd huw41 (by ((try simp only) <;> omega))
 have hv43 := BytesAt.upd hv39 huw41 (fun h0 => Nat.ne_of_lt (hvl5 h0))
 have hB44 := Touch.trans hB40 (Touch.of_new huw41 (by omega))
 refine WL.nil <| ?_
 refine W.ret (W.retc1 rfl rfl (ldRow hkw41 underlying143 rfl isz143)  ?_)
 exact Ends.ok (_, l.drop (wordAt l t)) (by rw [hy, nameS_ok hra, word_drop]) rfl ⟨_, rfl, (wordAt_le l t (by omega)).2, ⟨hk42, hv43⟩, hB44⟩
end Go.Proofs.YtjghbcjnplcleaaGreatDoor
