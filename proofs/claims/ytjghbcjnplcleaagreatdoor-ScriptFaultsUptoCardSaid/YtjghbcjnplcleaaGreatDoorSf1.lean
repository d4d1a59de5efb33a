/-
  What the claim leans on, part 1: pruned and joined by my own tool out of the texts that stand in wip/ as templates.
-/
import Derived.WalkKit
import Derived.WalkSpells
import Derived.WalkLawsBesides
import Derived.Test.YtjghbcjnplcleaaGreatDoorRows
import Derived.Deep.QuietTactic
import Derived.StillTail
import Derived.Laws.BytesString
import Derived.Laws.Slices
import Derived.Carry
import Derived.ChangeSlices
import Derived.Lib.ConvBytes
import Derived.Laws.AppendOwn
import Derived.Lib.FrozenHead
import Derived.Lib.AppendStr
import Derived.Laws.CopyRow
import Derived.Deep.MidRow
import Derived.Lib.SliceRun
import Derived.Deep.Slices
import Derived.ProofKit
import Derived.OpenShut
import Derived.Stop.BytesEq
import Derived.OrdersHeld
import Derived.Shelf.Strings.Builder1
import Derived.Shelf.Strings.Builder2
import Derived.Shelf.Strings.Trim
import Derived.Shelf.Small.Utf8
import Derived.Shelf.Small.Strs
import Derived.Shelf.Strings.BuilderF
import Derived.Shelf.Strings.BuilderK
import Derived.Shelf.Utf8.RuneCount
import Derived.Shelf.Strings.Builder2Cap
import Derived.Shelf.Strconv.Atoi
import Derived.Shelf.Strconv.Itoa0
import Derived.Shelf.Strconv.Itoa1
import Derived.Shelf.LaysM
import Derived.Shelf.Strconv.Itoa2
import Derived.Shelf.Strconv.Itoa3
import Derived.Shelf.Strconv.AtoiErrFast
import Derived.Shelf.Strconv.ParseIntEmpty
import Derived.Shelf.Strconv.AtoiFail
import Derived.Shelf.Strconv.Clone
import Derived.Shelf.Strconv.SyntaxError
import Derived.Shelf.LaysC
import Derived.Shelf.Strconv.ToError
import Derived.Shelf.Strconv.Lower
import Derived.Shelf.Strconv.ParseUint10
import Derived.Shelf.Strconv.ParseUint10Empty
import Derived.Shelf.Strconv.ParseUint10Any
import Derived.Shelf.Strconv.ParseInt10
import Derived.Shelf.Strconv.AtoiLong
import Derived.Shelf.Strconv.AtoiInnerAll
import Derived.Shelf.Strconv.RangeError
import Derived.Shelf.Strconv.ToErrorRange
import Derived.Shelf.Strconv.AtoiAll
import Derived.Shelf.Strconv.ErrVarAll
import Derived.Shelf.Strings.Search1
import Derived.Shelf.Strings.Search2
import Derived.Shelf.Strings.Search3
import Derived.Shelf.Strings.Cut
import Derived.Shelf.Strings.Count
import Derived.Shelf.Strings.Shaped
import Derived.Shelf.Strings.Prefix
import Derived.Shelf.Strings.Split
import Derived.Shelf.Strings.SplitShaped
import Derived.Shelf.Unicode.Decode
import Derived.Shelf.Strings.Runes
import Derived.Shelf.Strings.RuneCount
import Derived.Shelf.Strings.IndexAny
import Derived.Shelf.Strings.AsciiSet
import Derived.Shelf.Strings.IndexAnyAll
import Derived.Shelf.Strings.Explode
import Derived.Shelf.Bits.Mul64
import Derived.Shelf.Strings.Repeat
import Derived.Shelf.Unicode.DecodeSlow
import Derived.Shelf.Unicode.DecodeAny
import Derived.Shelf.Unicode.DecodeLast
import Derived.Shelf.Strings.BuilderCap
import Derived.Ground.Names2Prog
import Derived.Shelf.Slices.Clone
import Derived.Ground.SlgnProg
import Derived.Shelf.SlicesE.Clone
import Derived.Test.YtjghbcjnplcleaaGreatDoorProg
import Derived.Lib.Builder
import Derived.Laws.Externs
import Derived.Lib.UnsafeStr
import Derived.Lib.AppendZerosOnto
import Derived.Laws.OwnMore
import Derived.Shelf.Strings.SlTrimAscii
import Derived.BigQuiet
import Derived.Lib.AtoiAll
import Derived.Lib.SplitLaws
import Derived.Deep.DeepCutAuto
import Derived.Recover
import Derived.Test.YtjghbcjnplcleaaGreatDoorCards
import Derived.Test.YtjghbcjnplcleaaGreatDoorTie
import Derived.Deep.DeepHandedRow
import Derived.Lib.LaidTab
import Derived.Stop.LaidErr
import Derived.Shelf.Vars
namespace Go.Proofs.YtjghbcjnplcleaaGreatDoor
open Go.RowKit
open Go.Proofs.Tryz
section
theorem hid {p : Prop} (h : p) : Hid p := h
/-- a row of cells of one block, none of them frozen -/
def BRow (w : World) (b : Nat) (l : List Value) : Prop := ∀ j v, l[j]? = some v → w.cell? ⟨b, j, none⟩ = some v ∧ w.frozen? ⟨b, j, none⟩ = false
theorem BRow.set {w : World} {b : Nat} {l : List Value} (h : BRow w b l) (i : Nat) (v : Value) (hi : i < l.length) : BRow (w.setCell ⟨b, i, none⟩ v) b (l.set i v) := by
 intro j u hj
 rw [World.frozen?_setCell]
 by_cases e : i = j
 ·
  subst e
  rw [List.getElem?_set_self hi] at hj
  obtain rfl : v = u := by simpa using hj
  obtain ⟨h1, h2⟩ := h i l[i] (by simp [hi])
  exact ⟨World.cell?_setCell_same _ _ _ h1, h2⟩
 ·
  rw [List.getElem?_set_ne e] at hj
  obtain ⟨h1, h2⟩ := h j u hj
  rw [World.cell?_setCell_other _ _ _ _ (by intro h; simp at h)]
  exact ⟨h1, h2⟩
theorem BRow.below {w w' : World} {B b : Nat} {l : List Value} (h : BRow w b l) (hb : Below B w w') (hB : b < B) : BRow w' b l := by
 intro j u hj
 obtain ⟨h1, h2⟩ := h j u hj
 rw [hb.cell (p := ⟨b, j, none⟩) hB, hb.frozen (p := ⟨b, j, none⟩) hB]
 exact ⟨h1, h2⟩
/-- the cells of bytes -/
def byteVals (l : List UInt8) : List Value := l.map fun (c : UInt8) => Value.int .u8 (c.toNat : Int)
/-- one after the other -/
theorem btr {w w1 w2 : World} (h : Below w.heap.size w w1) (k : Below w1.heap.size w1 w2) : Below w.heap.size w w2 := h.trans (k.mono h.size)
theorem bdrewN (w : World) (q : Nat) : Below w.heap.size w (w.drewN q) := ⟨rfl, rfl, rfl, Nat.le_refl _, fun _ _ => rfl⟩
section
variable {P : Program}
theorem bytesRow_cell (w : World) (s : ByteArray) (cap : Nat) (e : TypeId) (hc : s.size ≤ cap) : BRow (w.drew.alloc (.cells (bytesRow s cap) e ((bytesRow s cap).size, (bytesRow s cap).size + 1))) w.heap.size (byteVals s.data.toList) := by
 intro j v hj
 have hj' : j < s.data.size := by
  rcases Nat.lt_or_ge j s.data.size with h | h
  ·
   exact h
  ·
   rw [List.getElem?_eq_none (by simpa [byteVals] using h)] at hj; cases hj
 have hsz : (bytesRow s cap).size = cap := by
  unfold bytesRow
  have e1 : s.data.size = s.size := rfl
  simp [e1]; omega
 constructor
 ·
  have h1 := World.cell?_alloc_mark w.drew (bytesRow s cap) e ((bytesRow s cap).size, (bytesRow s cap).size + 1) j
  have h2 := bytesRow_at s cap j hj'
  have e1 : w.drew.heap.size = w.heap.size := rfl
  rw [e1] at h1
  rw [h1, h2, ← hj]
  simp only [byteVals, List.getElem?_map, Array.getElem?_toList]
  rw [Array.getElem?_eq_getElem hj']; rfl
 ·
  have h1 := World.frozen?_alloc_mark w.drew (bytesRow s cap) e (bytesRow s cap).size ((bytesRow s cap).size + 1) j
  have e1 : w.drew.heap.size = w.heap.size := rfl
  rw [e1] at h1
  have e2 : s.data.size = s.size := rfl
  rw [h1, hsz]
  simp; omega
/-- []byte(s): a new row of bytes -/
theorem wpList_conv_bytes {ops : Array Oper} {rest : List Oper} {o : Oper} {a : Act} {Q : Exit → Act → World → Prop} {w : World} (hg : o.guard = none) (x : Operand) (ts tb te : TypeId) (hop : o.op = .convert ts tb x)
  (h1 : P.underlying ts = some .string) (h2 : P.underlying tb = some (.slice te)) (h3 : P.underlying te = some (.int .u8)) (s : ByteArray) (hx : a.eval x = .string s)
  (h : ∀ cap w', s.size ≤ cap → BRow w' w.heap.size (byteVals s.data.toList) → w.grownBy w' none → w'.heap.size = w.heap.size + 1 →
   wpList P ops Q rest (a.put o.dst (.slice (some ⟨w.heap.size, 0, none⟩) s.size cap)) w') : wpList P ops Q (o :: rest) a w := by
 refine wpList_plain hg fun K hK => ?_
 have hr := run_bytes_of_string (P := P) w ts tb te s h1 h2 h3
 unfold Oper.wp
 simp only [execOp, hop, hx, Sem.run_bind, hr, Result.andThen, Sem.run_pure, Oper.upon]
 refine hK _ _ (h _ _ (grownCap_ge w s.size 0 te) ?_ ?_ ?_)
 ·
  exact bytesRow_cell w s _ te (grownCap_ge w s.size 0 te)
 ·
  exact ⟨rfl, rfl, rfl, by simp, fun k hk _ => heap_alloc_old w.drew _ hk⟩
 ·
  simp
theorem below_of_grown {w w' : World} (h : w.grownBy w' none) : Below w.heap.size w w' :=
 (Below.refl _ _).grown h (Nat.le_refl _) (by intro k hk; cases hk)
end
end
section
def fitsB (n : Int) : Bool := decide (-2147483648 ≤ n) && decide (n ≤ 2147483647)
theorem fitsB_yes {n : Int} (h : -2147483648 ≤ n) (h' : n ≤ 2147483647) : fitsB n = true := by simp [fitsB, h, h']
theorem fitsB_lo {n : Int} (h : n < -2147483648) : fitsB n = false := by
 have : ¬ (-2147483648 ≤ n) := by omega
 simp [fitsB, this]
theorem fitsB_hi {n : Int} (h : 2147483647 < n) : fitsB n = false := by
 have : ¬ (n ≤ 2147483647) := by omega
 simp [fitsB, this]
set_option maxHeartbeats 400000 in
theorem fix_Fits (n : Int) (w : World) :
  Calls Tryz.prog 195 #[.int .i64 n] w fun e w' => e = .returned (.bool (fitsB n)) ∧ w = w' := by
 go_enter func195, ntmps195
 go_wp2
 ·
  go_ret
  have h : -2147483648 ≤ n := by assumption
  exact ⟨by simp [fitsB, h], rfl⟩
 ·
  go_ret
  have h : n < -2147483648 := by assumption
  exact ⟨by simp [fitsB_lo h], rfl⟩
set_option maxHeartbeats 400000 in
theorem ref_Fits (n : Int) (w : World) :
  Calls Tryz.prog 62 #[.int .i64 n] w fun e w' => e = .returned (.bool (fitsB n)) ∧ w = w' := by
 go_enter func62, ntmps62
 go_wp2
 ·
  go_ret
  have h : -2147483648 ≤ n := by assumption
  exact ⟨by simp [fitsB, h], rfl⟩
 ·
  go_ret
  have h : n < -2147483648 := by assumption
  exact ⟨by simp [fitsB_lo h], rfl⟩
/-- a byte, of a number -/
def ch (n : Int) : UInt8 := UInt8.ofNat n.toNat
def bs (l : List UInt8) : ByteArray := ⟨l.toArray⟩
theorem bs_append (a b : List UInt8) : bs a ++ bs b = bs (a ++ b) := by
 apply ByteArray.ext
 simp [bs]
theorem bs_size (l : List UInt8) : (bs l).size = l.length := by simp [bs, ByteArray.size]
/-- the digits of a number -/
def digitsL (n : Nat) : List UInt8 :=
 if n < 10 then [ch (48 + n)] else digitsL (n / 10) ++ [ch (48 + (n % 10 : Nat))]
termination_by n
theorem digitsL_lt (n : Nat) (h : n < 10) : digitsL n = [ch (48 + n)] := by rw [digitsL, if_pos h]
theorem digitsL_ge (n : Nat) (h : 10 ≤ n) : digitsL n = digitsL (n / 10) ++ [ch (48 + (n % 10 : Nat))] := by rw [digitsL, if_neg (by omega)]
theorem encode_digit (n : Int) (h : 0 ≤ n) (h' : n < 10) : Utf8.encode (48 + n) = bs [ch (48 + n)] := by
 obtain ⟨k, rfl⟩ := Int.eq_ofNat_of_zero_le h
 have : k < 10 := by omega
 match k, this with
 | 0, _ => rfl
 | 1, _ => rfl
 | 2, _ => rfl
 | 3, _ => rfl
 | 4, _ => rfl
 | 5, _ => rfl
 | 6, _ => rfl
 | 7, _ => rfl
 | 8, _ => rfl
 | 9, _ => rfl
theorem digitsL_small (n : Int) (h : 0 ≤ n) (h' : n < 10) : bs (digitsL n.toNat) = Utf8.encode (48 + n) := by
 rw [encode_digit n h h', digitsL, if_pos (by omega), Int.toNat_of_nonneg h]
theorem digitsL_big (n : Int) (h' : 10 ≤ n) : bs (digitsL (n / 10).toNat) ++ Utf8.encode (48 + n % 10) = bs (digitsL n.toNat) := by
 rw [encode_digit _ (by omega) (by omega), bs_append, digitsL_ge n.toNat (by omega)]
 have e1 : (n / 10).toNat = n.toNat / 10 := by omega
 have e2 : n % 10 = ((n.toNat % 10 : Nat) : Int) := by omega
 rw [e1, e2]
theorem digitsL_len (k : Nat) : ∀ n : Nat, n < 10 ^ (k + 1) → (digitsL n).length ≤ k + 1 := by
  induction k with
  | zero => intro n h; rw [digitsL, if_pos (by simpa using h)]; simp
  | succ k ih =>
    intro n h
    rw [digitsL]
    split
    · simp
    · have := ih (n / 10) (by rw [Nat.pow_succ] at h; omega)
      simp; omega
theorem digitsL_size (n : Nat) (h : n < 18446744073709551616) : (bs (digitsL n)).size ≤ 20 := by
 rw [bs_size]; exact digitsL_len 19 n (Nat.lt_trans h (by decide))
theorem encode_size (n : Int) : (Utf8.encode n).size ≤ 4 := encode_size_le n
set_option maxHeartbeats 400000 in
theorem dec_digits (k : Nat) : ∀ (n : Int) (w : World), 0 ≤ n → n ≤ k → n ≤ 4294967296 →
    Calls Tryz.prog 220 #[.int .i64 n] w fun e w' => e = .returned (.string (bs (digitsL n.toNat))) ∧ w = w' := by
  induction k with
  | zero =>
    intro n w h0 hk hb
    have hn : n < 10 := by omega
    go_enter func220, ntmps220
    go_wp2_with fail
    go_ret
    exact ⟨by rw [digitsL_small n h0 hn]; rfl, rfl⟩
  | succ k ih =>
    intro n w h0 hk hb
    by_cases hn : n < 10
    · go_enter func220, ntmps220
      go_wp2_with fail
      go_ret
      exact ⟨by rw [digitsL_small n h0 hn]; rfl, rfl⟩
    · have hn' : 10 ≤ n := by omega
      have hs1 := digitsL_size (n / 10).toNat (by omega)
      have hs2 := encode_size (48 + n % 10)
      go_enter func220, ntmps220
      go_wp2_with (go_at_call 220; refine (ih (n / 10) _ (by omega) (by omega) (by omega)).mono ?_; rintro e w' ⟨rfl, rfl⟩)
      go_ret
      exact ⟨by rw [← digitsL_big n hn']; rfl, rfl⟩
/-- string([]byte(c)), the slice just laid -/
theorem byte_str (w : World) (x : Int) : (convert 22 9 (.slice (some ⟨w.heap.size, 0, none⟩) 1 1)).run Tryz.prog (w.alloc (.cells #[.int .u8 x] 5)) =
    .ok (.string (bs [ch x])) (w.alloc (.cells #[.int .u8 x] 5)) := by
  have h := run_convert_bytes_arg (P := Tryz.prog) (w.alloc (.cells #[.int .u8 x] 5)) 22 5 underlying22 underlying5 w.heap.size 0 1 1 [x] rfl
    (by intro i hi; obtain rfl : i = 0 := by omega
        go_simp) 9 underlying9
  exact h
set_option maxHeartbeats 400000 in
theorem ref_udec (n : Nat) (w : World) (hn : n < 18446744073709551616):
    Calls Tryz.prog 64 #[.int .u64 n] w fun e w' => e = .returned (.string (bs (digitsL n))) ∧ Below w.heap.size w w' := by
  have hbyte := byte_str
  go_enter func64, ntmps64
  go_wp2_with fail
  go_loopw [0, 3] (fun u s wr => ∃ (m : Nat) (t : List UInt8), m < 18446744073709551616 ∧ u = .int .u64 m ∧ s = .string (bs t) ∧ Below w.heap.size w wr ∧ t.length + (digitsL m).length ≤ 20 ∧ digitsL n = digitsL m ++ t) (fun u _ _ => (intOf u).toNat)
  case atStart => exact ⟨n, [], hn, rfl, rfl, Below.refl _ _, by have := digitsL_size n hn; rw [bs_size] at this; simpa using this, by simp⟩
  case round =>
    obtain ⟨m, t, hm, rfl, rfl, hb, hl, hd⟩ := hrel
    have Hd := hid hd; clear hd
    have hs : (bs t).size ≤ 20 := by rw [bs_size]; omega
    have hs1 : (bs [ch (48 + (m : Int) % 10)]).size ≤ 1 := by rw [bs_size]; simp
    have hsz := hb.size
    by_cases h10 : m < 10
    · have hz : (((m : Int) / 10) == 0) = true := by rw [beq_iff_eq]; omega
      go_wp2
      go_ret
      have e : (m : Int) % 10 = (m : Int) := by omega
      exact ⟨by rw [Hd.out, digitsL_lt m h10, ← bs_append, e]; rfl, hb.alloc hsz _⟩
    · have hz : (((m : Int) / 10) == 0) = false := by rw [beq_eq_false_iff_ne]; omega
      have hg := digitsL_ge m (by omega)
      have Hg := hid hg; clear hg
      go_wp2
      refine ⟨⟨m / 10, ch (48 + ((m % 10 : Nat) : Int)) :: t, by omega, by go_num, by rw [bs_append]; simp, hb.alloc hsz _, ?_, ?_⟩, by simp [intOf]; omega⟩
      · have := congrArg List.length Hg.out
        simp at this ⊢; omega
      · rw [Hd.out, Hg.out]; simp
theorem ref_udecI (n : Int) (w : World) (h0 : 0 ≤ n) (hn : n < 18446744073709551616):
  Calls Tryz.prog 64 #[.int .u64 n] w fun e w' => e = .returned (.string (bs (digitsL n.toNat))) ∧ Below w.heap.size w w' := by
 have h := ref_udec n.toNat w (by omega)
 rw [Int.toNat_of_nonneg h0] at h
 exact h
/-- a whole number's digits, with its sign -/
def decL (n : Int) : List UInt8 := if n < 0 then 45 :: digitsL n.natAbs else digitsL n.natAbs
set_option maxHeartbeats 400000 in
theorem ref_Dec (n : Int) (w : World) (h : -9223372036854775808 ≤ n) (h' : n ≤ 9223372036854775807) :
    Calls Tryz.prog 37 #[.int .i64 n] w fun e w' => e = .returned (.string (bs (decL n))) ∧ Below w.heap.size w w' := by
  by_cases hn : n < 0
  · have hs1 := digitsL_size (-(n + 1) + 1).toNat (by omega)
    go_enter func37, ntmps37
    go_wp2_with (go_at_call 64; refine (ref_udecI _ _ (by omega) (by omega)).mono ?_; rintro e w' ⟨rfl, hb⟩)
    go_ret
    have e1 : (-(n + 1) + 1).toNat = n.natAbs := by omega
    refine ⟨?_, hb⟩
    rw [decL, if_pos hn, ← e1]
    show Ending.returned (.string (bs [45] ++ bs _)) = _
    rw [bs_append]; rfl
  · go_enter func37, ntmps37
    go_wp2_with (go_at_call 64; refine (ref_udecI _ _ (by omega) (by omega)).mono ?_; rintro e w' ⟨rfl, hb⟩)
    go_ret
    have e1 : n.toNat = n.natAbs := by omega
    refine ⟨?_, hb⟩
    rw [decL, if_neg (by omega), ← e1]
    rfl
theorem decL_size (n : Int) (h : -9223372036854775808 ≤ n) (h' : n ≤ 9223372036854775807) : (bs (decL n)).size ≤ 21 := by
 have := digitsL_size n.natAbs (by omega)
 rw [bs_size] at *
 unfold decL; split <;> simp <;> omega
end
section
/-- what is known of a frame: slots and values, the latest first -/
abbrev Fr := List (Nat × Value)
def look : Fr → Nat → Option Value
 | [], _ => none
 | (j, v) :: r, i => bif Nat.beq j i then some v else look r i
def evo (f : Fr) : Operand → Option Value
 | .tmp t => look f t
 | .const v => some v
 | .global g => some (.pointer (some ⟨g, 0, none⟩))
 | .func k => some (.func (.func k) #[] #[])
def Sub : Fr → Fr → Prop
 | [], _ => True
 | (j, v) :: g, f => look f j = some v ∧ Sub g f
theorem Sub.look {g f : Fr} (h : Sub g f) {i : Nat} {v : Value} (hv : look g i = some v) : look f i = some v := by
 induction g with
 | nil => cases hv
 | cons p g ih =>
  obtain ⟨j, u⟩ := p
  unfold Go.Proofs.YtjghbcjnplcleaaGreatDoor.look at hv
  cases hb : Nat.beq j i with
  | true =>
   rw [hb] at hv
   obtain rfl : j = i := Nat.eq_of_beq_eq_true hb
   rw [h.1]; exact hv
  | false => rw [hb] at hv; exact ih h.2 hv
/-- a frame's shape: its slots, its deferred calls -/
structure Sh where
 n : Nat
 D : List Deferred
/-- a frame of this shape of which this is known -/
def Rep (n : Sh) (f : Fr) (a : Act) : Prop := a.defers = n.D ∧ a.tmps.size = n.n ∧ ∀ i v, look f i = some v → a.tmps.getD i undef = v
theorem Rep.sub {n : Sh} {f g : Fr} {a : Act} (h : Rep n f a) (hs : Sub g f) : Rep n g a := ⟨h.1, h.2.1, fun i v hv => h.2.2 i v (hs.look hv)⟩
theorem Rep.put {n : Sh} {f : Fr} {a : Act} (h : Rep n f a) {d : Nat} (hd : Nat.blt d n.n = true) (v : Value) : Rep n ((d, v) :: f) (a.put (some d) v) := by
 have hdn : d < n.n := by simpa [Nat.blt_eq] using hd
 refine ⟨h.1, by simp [Act.put, h.2.1], fun i u hu => ?_⟩
 show (a.tmps.setIfInBounds d v).getD i undef = u
 unfold look at hu
 cases hb : Nat.beq d i with
 | true =>
  obtain rfl : d = i := Nat.eq_of_beq_eq_true hb
  simp only [hb, cond_true, Option.some.injEq] at hu
  subst hu
  simp [Array.getD, h.2.1, hdn]
 | false =>
  simp only [hb, cond_false] at hu
  have hne : d ≠ i := fun e => by rw [e, Nat.beq_refl] at hb; cases hb
  have := h.2.2 i u hu
  simp only [Array.getD_eq_getD_getElem?] at this ⊢
  rw [Array.getElem?_setIfInBounds_ne hne]; exact this
/-- an evaluation of operands that agrees with what is known -/
def Agr (f : Fr) (ρ : Operand → Value) : Prop := ∀ x v, evo f x = some v → ρ x = v
theorem Rep.agr {n : Sh} {f : Fr} {a : Act} (h : Rep n f a) : Agr f a.eval := by
 intro x v hx
 cases x with
 | tmp t => exact h.2.2 t v hx
 | const u => exact Option.some.inj hx
 | global g => exact Option.some.inj hx
 | func k => exact Option.some.inj hx
section
variable {P : Program} {n : Sh}
def lift (n : Sh) (Q : Exit → Fr → World → Prop) : Exit → Act → World → Prop := fun e a w => ∃ f, Rep n f a ∧ Q e f w
def W (P : Program) (n : Sh) (c : Code) (Q : Exit → Fr → World → Prop) (f : Fr) (w : World) : Prop := ∀ a, Rep n f a → c.wp P (lift n Q) a w
def WL (P : Program) (n : Sh) (ops : Array Oper) (Q : Exit → Fr → World → Prop) (l : List Oper) (f : Fr) (w : World) : Prop := ∀ a, Rep n f a → wpList P ops (lift n Q) l a w
/-- what comes next -/
def nx (K : Fr → World → Prop) (Q : Exit → Fr → World → Prop) : Exit → Fr → World → Prop
 | .normal, f, w => K f w
 | e, f, w => Q e f w
def inb (id : Nat) (Q : Exit → Fr → World → Prop) : Exit → Fr → World → Prop
 | .exit i, f, w => bif Nat.beq i id then Q .normal f w else Q (.exit i) f w
 | e, f, w => Q e f w
theorem W.weaken {c : Code} {Q : Exit → Fr → World → Prop} {f : Fr} {w : World} (g : Fr) (hs : Sub g f) (h : W P n c Q g w) : W P n c Q f w :=
 fun a ha => h a (ha.sub hs)
theorem W.mono {c : Code} {Q Q' : Exit → Fr → World → Prop} {f : Fr} {w : World} (h : W P n c Q f w) (hq : ∀ e f w, Q e f w → Q' e f w) : W P n c Q' f w :=
 fun a ha => wp_mono (h a ha) fun _ _ _ ⟨f', hr, hQ⟩ => ⟨f', hr, hq _ _ _ hQ⟩
theorem W.seq {x y : Code} {Q : Exit → Fr → World → Prop} {f : Fr} {w : World} (h : W P n x (nx (fun f w => W P n y Q f w) Q) f w) : W P n (.seq x y) Q f w := by
 intro a ha
 refine wp_seq (wp_mono (h a ha) ?_)
 rintro e a' w' ⟨f', hr, hQ⟩
 cases e with
 | normal => exact hQ a' hr
 | _ => exact ⟨f', hr, hQ⟩
theorem dT {p : Prop} [Decidable p] (h : decide p = true) : p := of_decide_eq_true h
theorem dF {p : Prop} [Decidable p] (h : decide p = false) : ¬p := of_decide_eq_false h
theorem oO {p : Prop} (h : p := by omega) : p := h
theorem aS {p : Prop} (h : p := by assumption) : p := h
theorem dD {p : Prop} (h : p := by decide) : p := h
theorem kR {p : Prop} (h : p := by kernel_rfl) : p := h
theorem oL {p : Prop} (h : p := by simp only [List.length_append, List.length_cons, List.length_nil, List.length_drop] at *; omega) : p := h
theorem oD {p : Prop} (h : p := by first | decide | exact Nat.le_of_ble_eq_true rfl) : p := h
theorem oM {p : Prop} (h : p := by ((try simp only) <;> omega)) : p := h
/-- a cut: what stands behind is walked once, from what the relation tells -/
theorem W.cut {α : Type} (R : α → Fr) (S : α → World → Prop) {x y : Code} {Q : Exit → Fr → World → Prop} {f : Fr} {w : World}
  (h1 : W P n x (nx (fun f' w' => ∃ t, Sub (R t) f' ∧ S t w') Q) f w) (h2 : ∀ t w', S t w' → W P n y Q (R t) w') : W P n (.seq x y) Q f w := by
 refine W.seq (h1.mono ?_)
 intro e f' w' h
 cases e with
 | normal => obtain ⟨t, hs, ht⟩ := h; exact (h2 t w' ht).weaken _ hs
 | _ => exact h
theorem W.skip {Q : Exit → Fr → World → Prop} {f : Fr} {w : World} (h : Q .normal f w) : W P n .skip Q f w := fun _ ha => wp_skip ⟨f, ha, h⟩
theorem W.exit {Q : Exit → Fr → World → Prop} {f : Fr} {w : World} {id : Nat} (h : Q (.exit id) f w) : W P n (.exit id) Q f w := fun _ ha => wp_exit ⟨f, ha, h⟩
theorem W.ret {Q : Exit → Fr → World → Prop} {f : Fr} {w : World} (h : Q .ret f w) : W P n .ret Q f w := fun _ ha => wp_ret ⟨f, ha, h⟩
theorem W.block {Q : Exit → Fr → World → Prop} {f : Fr} {w : World} {id : Nat} {c : Code} (h : W P n c (inb id Q) f w) : W P n (.block id c) Q f w := by
 intro a ha
 refine wp_block (wp_mono (h a ha) ?_)
 rintro e a' w' ⟨f', hr, hQ⟩
 cases e with
 | exit i =>
  simp only [Exit.inBlock]
  by_cases hi : i = id
  ·
   subst hi
   rw [if_pos rfl]
   simp only [inb, Nat.beq_refl, cond_true] at hQ
   exact ⟨f', hr, hQ⟩
  ·
   rw [if_neg hi]
   have hb : Nat.beq i id = false := by
    cases h : Nat.beq i id with
    | false => rfl
    | true => exact absurd (Nat.eq_of_beq_eq_true h) hi
   simp only [inb, hb, cond_false] at hQ
   exact ⟨f', hr, hQ⟩
 | _ => exact ⟨f', hr, hQ⟩
theorem W.cond {Q : Exit → Fr → World → Prop} {f : Fr} {w : World} {c : Operand} {x y : Code} {t : Bool} (hc : evo f c = some (.bool t))
  (ht : t = true → W P n x Q f w) (hf : t = false → W P n y Q f w) : W P n (.cond c x y) Q f w :=
 fun a ha => wp_cond_split (ha.agr _ _ hc) (fun h => ht h a ha) (fun h => hf h a ha)
theorem W.condT {Q : Exit → Fr → World → Prop} {f : Fr} {w : World} {c : Operand} {x y : Code} {t : Bool} (hc : evo f c = some (.bool t)) (e : t = true)
  (h : W P n x Q f w) : W P n (.cond c x y) Q f w := W.cond hc (fun _ => h) (fun h' => by rw [e] at h'; cases h')
theorem W.condF {Q : Exit → Fr → World → Prop} {f : Fr} {w : World} {c : Operand} {x y : Code} {t : Bool} (hc : evo f c = some (.bool t)) (e : t = false)
  (h : W P n y Q f w) : W P n (.cond c x y) Q f w := W.cond hc (fun h' => by rw [e] at h'; cases h') (fun _ => h)
theorem W.loop {α : Type} (R : α → Fr) (S : α → World → Prop) (m : α → Nat) (t : α) {c : Code} {Q : Exit → Fr → World → Prop} {f : Fr} {w : World}
  (h0 : Sub (R t) f) (h1 : S t w) (round : ∀ t w, S t w → W P n c (nx (fun f' w' => ∃ u, Sub (R u) f' ∧ S u w' ∧ m u < m t) Q) (R t) w) : W P n (.loop c) Q f w := by
 intro a ha b k cs
 have key : ∀ k' t a w, m t = k' → Rep n (R t) a → S t w → ∃ e a' w', lift n Q e a' w' ∧ Arrives P (lone (b.at a (.code c :: .inLoop c :: k)) cs w) b k cs e a' w' := by
  intro k'
  induction k' using Nat.strongRecOn with
  | _ k' ih =>
   intro t a w hm hr hS
   obtain ⟨e, a1, w1, ⟨f1, hr1, hq⟩, harr⟩ := round t w hS a hr b (.inLoop c :: k) cs
   cases e with
   | normal =>
    obtain ⟨u, hs, hSu, hlt⟩ := hq
    obtain ⟨e2, a2, w2, hq2, harr2⟩ := ih (m u) (hm ▸ hlt) u a1 w1 rfl (hr1.sub hs) hSu
    exact ⟨e2, a2, w2, hq2, .of_steps (Steps.trans harr (.one step_inLoop)) harr2⟩
   | exit id => exact ⟨_, a1, w1, ⟨f1, hr1, hq⟩, .pass (x := .inLoop c) rfl (fun _ _ => .inl (by simp)) harr⟩
   | goto l => exact ⟨_, a1, w1, ⟨f1, hr1, hq⟩, .pass (x := .inLoop c) rfl (fun _ _ => .inl (by simp)) harr⟩
   | ret => exact ⟨_, a1, w1, ⟨f1, hr1, hq⟩, .pass (x := .inLoop c) rfl (fun _ _ => .inl (by simp)) harr⟩
   | panic ch => exact ⟨_, a1, w1, ⟨f1, hr1, hq⟩, .pass (x := .inLoop c) rfl (fun _ _ => .inl (by simp)) harr⟩
   | outgrown => exact ⟨_, a1, w1, ⟨f1, hr1, hq⟩, .pass (x := .inLoop c) rfl (fun _ _ => .inl (by simp)) harr⟩
 obtain ⟨e, a', w', hq, harr⟩ := key _ t a w rfl (ha.sub h0) h1
 exact ⟨e, a', w', hq, .of_steps (.one step_loop) harr⟩
theorem W.reg {Q : Exit → Fr → World → Prop} {f : Fr} {w : World} {id : Nat} {l : List Oper} (h : WL P n l.toArray Q l f w) : W P n (.region id l.toArray false) Q f w :=
 fun a ha => wp_region_lit (h a ha)
theorem W.sr {P : Program} {n : Sh} {id : Nat} {l : List Oper} {y : Code} {Q : Exit → Fr → World → Prop} {f : Fr} {w : World} (h : WL P n l.toArray (nx (fun f w => W P n y Q f w) Q) l f w) : W P n (.seq (.region id l.toArray false) y) Q f w := W.seq (W.reg h)
def number : Nat → List Value → Fr
 | _, [] => []
 | k, v :: r => (k, v) :: number (k + 1) r
theorem number_look (l : List Value) : ∀ k i v, look (number k l) i = some v → ∃ j, i = k + j ∧ l[j]? = some v := by
 induction l with
 | nil => intro k i v h; cases h
 | cons u r ih =>
  intro k i v h
  unfold number look at h
  cases hb : Nat.beq k i with
  | true =>
   simp only [hb, cond_true, Option.some.injEq] at h
   exact ⟨0, (Nat.eq_of_beq_eq_true hb).symm, by simp [h]⟩
  | false =>
   simp only [hb, cond_false] at h
   obtain ⟨j, e, hj⟩ := ih (k + 1) i v h
   exact ⟨j + 1, by omega, by simpa using hj⟩
/-- what a function hands back -/
def ResOk (P : Program) (fn : Func) (f : Fr) (w : World) (v : Value) : Prop := ∀ tmps : Array Value, (∀ i u, look f i = some u → tmps.getD i undef = u) → (results fn tmps).run P w = .ok v w
def Post (P : Program) (fn : Func) (R : Ending → World → Prop) : Exit → Fr → World → Prop
 | .normal, f, w | .ret, f, w => ∃ v, ResOk P fn f w v ∧ R (.returned v) w
 | .panic chain, _, w => R (.panicked chain) w
 | .outgrown, _, w => R .outgrown w
 | _, _, _ => False
theorem W.enter {F : FuncId} {fn : Func} {c : Code} {args : Array Value} {w : World} {R : Ending → World → Prop} (hf : P.funcs[F]? = some fn) (hb : fn.body = some c)
  {k : Nat} (hn : fn.ntmps = k) (hl : args.size ≤ k) (h : W P ⟨k, []⟩ c (Post P fn R) (number 0 args.toList) w) : Calls P F args w R := by
 refine calls_of_wp hf hb (wp_mono (h _ ⟨rfl, by simp [hn]; omega, ?_⟩) ?_)
 ·
  intro i v hv
  obtain ⟨j, e, hj⟩ := number_look _ _ _ _ hv
  obtain rfl : i = j := by omega
  have hlt : i < args.size := by
   rcases Nat.lt_or_ge i args.size with h | h
   ·
    exact h
   ·
    rw [List.getElem?_eq_none (by simpa using h)] at hj; cases hj
  have hj' : args[i]? = some v := by rw [← Array.getElem?_toList]; exact hj
  simp only [Array.getD_eq_getD_getElem?]
  rw [Array.getElem?_append_left hlt, hj']; rfl
 ·
  rintro e a' w' ⟨f', hr, hQ⟩
  cases e with
  | normal => obtain ⟨v, h1, h2⟩ := hQ; exact ⟨hr.1, v, h1 _ hr.2.2, h2⟩
  | ret => obtain ⟨v, h1, h2⟩ := hQ; exact ⟨hr.1, v, h1 _ hr.2.2, h2⟩
  | panic ch => exact ⟨hr.1, hQ⟩
  | outgrown => exact hQ
  | exit i => exact hQ.elim
  | goto l => exact hQ.elim
theorem W.ret0 {fn : Func} {R : Ending → World → Prop} {f : Fr} {w : World} (hr : fn.results = #[]) (h : R (.returned (.tuple #[])) w) : Post P fn R .ret f w :=
 ⟨_, fun _ _ => results_none hr _ _ _, h⟩
theorem W.ret1 {fn : Func} {R : Ending → World → Prop} {f : Fr} {w : World} {t : Tmp} {v : Value} (hr : fn.results = #[.tmp t]) (hv : look f t = some v)
  (h : R (.returned v) w) : Post P fn R .ret f w :=
 ⟨v, fun tmps ht => by rw [results_tmp hr, ht _ _ hv], h⟩
theorem W.ret2 {fn : Func} {R : Ending → World → Prop} {f : Fr} {w : World} {t u : Tmp} {v x : Value} (hr : fn.results = #[.tmp t, .tmp u]) (hv : look f t = some v) (hx : look f u = some x)
  (h : R (.returned (.tuple #[v, x])) w) : Post P fn R .ret f w :=
 ⟨_, fun tmps ht => by rw [results_tmp2 hr, ht _ _ hv, ht _ _ hx], h⟩
theorem W.ret3 {fn : Func} {R : Ending → World → Prop} {f : Fr} {w : World} {t u s : Tmp} {v x y : Value} (hr : fn.results = #[.tmp t, .tmp u, .tmp s]) (hv : look f t = some v) (hx : look f u = some x) (hy : look f s = some y)
  (h : R (.returned (.tuple #[v, x, y])) w) : Post P fn R .ret f w :=
 ⟨_, fun tmps ht => by rw [show (results fn tmps).run P w = .ok (.tuple #[tmps.getD t undef, tmps.getD u undef, tmps.getD s undef]) w by simp [results, hr], ht _ _ hv, ht _ _ hx, ht _ _ hy], h⟩
/-- an operation that yields a value whatever the world -/
def Pure (P : Program) (op : Op) (f : Fr) (v : Value) : Prop := ∀ ρ, Agr f ρ → ∀ d ty pos aft g w, (execOp ρ ⟨d, op, ty, pos, aft, g⟩).run P w = .ok (.value v) w
theorem WL.nil {ops : Array Oper} {Q : Exit → Fr → World → Prop} {f : Fr} {w : World} (h : Q .normal f w) : WL P n ops Q [] f w := fun _ ha => wpList_nil ⟨f, ha, h⟩
/-- any operation by its run -/
theorem WL.run {ops : Array Oper} {Q : Exit → Fr → World → Prop} {f : Fr} {w w' : World} {rest : List Oper} {d ty : Nat} {pos : String} {aft : Array Edge} {op : Op} {v : Value} (hd : Nat.blt d n.n = true)
  (h : ∀ ρ, Agr f ρ → (execOp ρ ⟨some d, op, ty, pos, aft, none⟩).run P w = .ok (.value v) w') (k : WL P n ops Q rest ((d, v) :: f) w') : WL P n ops Q (⟨some d, op, ty, pos, aft, none⟩ :: rest) f w := by
 intro a ha
 refine wpList_plain rfl fun K hK => ?_
 unfold Oper.wp
 rw [h _ ha.agr]
 exact hK _ _ (k _ (ha.put hd v))
/-- an operation that yields nothing -/
theorem WL.act {ops : Array Oper} {Q : Exit → Fr → World → Prop} {f : Fr} {w w' : World} {rest : List Oper} {ty : Nat} {pos : String} {aft : Array Edge} {op : Op}
  (h : ∀ ρ, Agr f ρ → (execOp ρ ⟨none, op, ty, pos, aft, none⟩).run P w = .ok .skip w') (k : WL P n ops Q rest f w') : WL P n ops Q (⟨none, op, ty, pos, aft, none⟩ :: rest) f w := by
 intro a ha
 refine wpList_plain rfl fun K hK => ?_
 unfold Oper.wp
 rw [h _ ha.agr]
 exact hK _ _ (k _ ha)
theorem WL.p {ops : Array Oper} {Q : Exit → Fr → World → Prop} {f : Fr} {w : World} {rest : List Oper} {d ty : Nat} {pos : String} {aft : Array Edge} {op : Op} {v : Value}
  (h : Pure P op f v) (hd : Nat.blt d n.n = true) (k : WL P n ops Q rest ((d, v) :: f) w) : WL P n ops Q (⟨some d, op, ty, pos, aft, none⟩ :: rest) f w :=
 WL.run hd (fun ρ hρ => h ρ hρ _ _ _ _ _ _) k
/-- a guard: is the operation wanted -/
theorem WL.gd {ops : Array Oper} {Q : Exit → Fr → World → Prop} {f : Fr} {w : World} {rest : List Oper} {d ty : Nat} {pos : String} {aft : Array Edge} {op : Op} {j dj : Nat} {b t : Bool}
    (hj : (ops[j]?).bind (·.dst) = some dj) (ht : look f dj = some (.bool t)) (hd : Nat.blt d n.n = true)
    (hy : t = b → WL P n ops Q (⟨some d, op, ty, pos, aft, none⟩ :: rest) f w) (hn : t = !b → WL P n ops Q rest ((d, undef) :: f) w) :
    WL P n ops Q (⟨some d, op, ty, pos, aft, some (j, b)⟩ :: rest) f w := by
  intro a ha
  have hval := ha.2.2 _ _ ht
  have hyl : yielded ops a.tmps j = some t := by
    unfold yielded
    cases ho : ops[j]? with
    | none => rw [ho] at hj; cases hj
    | some o =>
      rw [ho] at hj
      simp only [Option.bind_some] at hj
      have h1 : a.tmps[dj]? = some (.bool t) := by
        cases h : a.tmps[dj]? with
        | none => rw [Array.getD_eq_getD_getElem?, h] at hval; cases hval
        | some v => rw [Array.getD_eq_getD_getElem?, h] at hval; exact congrArg some hval
      simp [hj, h1]
  by_cases hb : t = b
  · have := hy hb a ha
    unfold wpList at this ⊢
    simp only [Region.wanted, hyl, hb, beq_self_eq_true, if_true] at this ⊢
    exact this
  · have hb' : t = !b := by revert hb; cases t <;> cases b <;> decide
    have := hn hb' _ (ha.put hd undef)
    unfold wpList
    have hw : (some t == some b) = false := by revert hb; cases t <;> cases b <;> decide
    simp only [Region.wanted, hyl, hw]
    exact this
theorem WL.gy {ops : Array Oper} {Q : Exit → Fr → World → Prop} {f : Fr} {w : World} {rest : List Oper} {d ty : Nat} {pos : String} {aft : Array Edge} {op : Op} {j dj : Nat} {b t : Bool}
  (hj : (ops[j]?).bind (·.dst) = some dj) (ht : look f dj = some (.bool t)) (hd : Nat.blt d n.n = true) (e : t = b)
  (hy : WL P n ops Q (⟨some d, op, ty, pos, aft, none⟩ :: rest) f w) : WL P n ops Q (⟨some d, op, ty, pos, aft, some (j, b)⟩ :: rest) f w :=
 WL.gd hj ht hd (fun _ => hy) (fun h => by rw [e] at h; cases b <;> cases h)
theorem WL.gn {ops : Array Oper} {Q : Exit → Fr → World → Prop} {f : Fr} {w : World} {rest : List Oper} {d ty : Nat} {pos : String} {aft : Array Edge} {op : Op} {j dj : Nat} {b t : Bool}
  (hj : (ops[j]?).bind (·.dst) = some dj) (ht : look f dj = some (.bool t)) (hd : Nat.blt d n.n = true) (e : t = !b)
  (hn : WL P n ops Q rest ((d, undef) :: f) w) : WL P n ops Q (⟨some d, op, ty, pos, aft, some (j, b)⟩ :: rest) f w :=
 WL.gd hj ht hd (fun h => by rw [e] at h; cases b <;> cases h) (fun _ => hn)
end
theorem fbs_toList (l : List UInt8) : (bs l).toList = l := by simp [bs]
theorem fbs_extract (l : List UInt8) (a b : Nat) : (bs l).extract a b = bs ((l.drop a).take (b - a)) := by
 apply ByteArray.ext
 simp [bs, List.extract_eq_take_drop]
theorem beq_dec (l m : List UInt8) : (l == m) = decide (l = m) := by rw [Bool.eq_iff_iff]; simp
theorem i64w {r : Int} (h : -9223372036854775808 ≤ r ∧ r ≤ 9223372036854775807) : IntKind.i64.wrap r = r := by rw [IntKind.wrap_i64]; omega
theorem u8w {r : Int} (h : 0 ≤ r ∧ r ≤ 255) : IntKind.u8.wrap r = r := by rw [IntKind.wrap_u8']; omega
theorem u64w {r : Int} (h : 0 ≤ r ∧ r ≤ 18446744073709551615) : IntKind.u64.wrap r = r := by rw [IntKind.wrap_u64]; omega
theorem u8q {a b : Int} (h0 : 0 ≤ a) (h1 : a ≤ 255) (hb : 1 ≤ b) : IntKind.u8.wrap (a.tdiv b) = a / b := by
 rw [Int.tdiv_eq_ediv_of_nonneg h0]
 exact u8w ⟨Int.ediv_nonneg h0 (by omega : 0 ≤ b), by have := Int.ediv_le_self b h0; omega⟩
section
variable {P : Program} {n : Sh} {f : Fr}
theorem Pure.mv {x : Operand} {v : Value} (hx : evo f x = some v) : Pure P (.move x) f v := fun ρ hρ d ty pos aft g w => by
 simp [execOp, hρ _ _ hx]
theorem WL.m {P : Program} {n : Sh} {ops : Array Oper} {Q : Exit → Fr → World → Prop} {f : Fr} {w : World} {rest : List Oper} {d ty : Nat} {pos : String} {aft : Array Edge} {x : Operand} {v : Value} (h : evo f x = some v) (hd : Nat.blt d n.n = true) (k : WL P n ops Q rest ((d, v) :: f) w) : WL P n ops Q (⟨some d, .move x, ty, pos, aft, none⟩ :: rest) f w := WL.p (.mv h) hd k
theorem Pure.as {x : Operand} {v : Value} (hx : evo f x = some v) : Pure P (.assign x) f v := fun ρ hρ d ty pos aft g w => by
 simp [execOp, hρ _ _ hx]
theorem WL.z {P : Program} {n : Sh} {ops : Array Oper} {Q : Exit → Fr → World → Prop} {f : Fr} {w : World} {d ty : Nat} {pos : String} {aft : Array Edge} {x : Operand} {v : Value} (h : evo f x = some v) (hd : Nat.blt d n.n = true) (k : Q .normal ((d, v) :: f) w) : WL P n ops Q [⟨some d, .assign x, ty, pos, aft, none⟩] f w := WL.p (.as h) hd (WL.nil k)
theorem WL.a {P : Program} {n : Sh} {ops : Array Oper} {Q : Exit → Fr → World → Prop} {f : Fr} {w : World} {rest : List Oper} {d ty : Nat} {pos : String} {aft : Array Edge} {x : Operand} {v : Value} (h : evo f x = some v) (hd : Nat.blt d n.n = true) (k : WL P n ops Q rest ((d, v) :: f) w) : WL P n ops Q (⟨some d, .assign x, ty, pos, aft, none⟩ :: rest) f w := WL.p (.as h) hd k
theorem Pure.pick {c x y : Operand} {t : Bool} {v : Value} (hc : evo f c = some (.bool t)) (h1 : t = true → evo f x = some v) (h2 : t = false → evo f y = some v) : Pure P (.pick c x y) f v := fun ρ hρ d ty pos aft g w => by
 cases t
 ·
  simp [execOp, hρ _ _ hc, asBool, hρ _ _ (h2 rfl)]
 ·
  simp [execOp, hρ _ _ hc, asBool, hρ _ _ (h1 rfl)]
theorem Pure.pkT {c x y : Operand} {t : Bool} {v : Value} (hc : evo f c = some (.bool t)) (e : t = true) (h1 : evo f x = some v) : Pure P (.pick c x y) f v :=
 .pick hc (fun _ => h1) (fun h => by rw [e] at h; cases h)
theorem Pure.pkF {c x y : Operand} {t : Bool} {v : Value} (hc : evo f c = some (.bool t)) (e : t = false) (h1 : evo f y = some v) : Pure P (.pick c x y) f v :=
 .pick hc (fun h => by rw [e] at h; cases h) (fun _ => h1)
section ints
variable {x y : Operand} {k : IntKind} {a b r : Int} {tx ty : TypeId}
theorem Pure.add (hx : evo f x = some (.int k a)) (hy : evo f y = some (.int k b)) (hr : k.wrap (a + b) = r) : Pure P (.binOp .add tx x y ty) f (.int k r) := fun ρ hρ d ty pos aft g w => by
 simp [execOp, hρ _ _ hx, hρ _ _ hy, eqGuard, binOp, Op.intArith, hr]
theorem Pure.sub (hx : evo f x = some (.int k a)) (hy : evo f y = some (.int k b)) (hr : k.wrap (a - b) = r) : Pure P (.binOp .sub tx x y ty) f (.int k r) := fun ρ hρ d ty pos aft g w => by
 simp [execOp, hρ _ _ hx, hρ _ _ hy, eqGuard, binOp, Op.intArith, hr]
theorem Pure.mul (hx : evo f x = some (.int k a)) (hy : evo f y = some (.int k b)) (hr : k.wrap (a * b) = r) : Pure P (.binOp .mul tx x y ty) f (.int k r) := fun ρ hρ d ty pos aft g w => by
 simp [execOp, hρ _ _ hx, hρ _ _ hy, eqGuard, binOp, Op.intArith, hr]
theorem Pure.quo (hx : evo f x = some (.int k a)) (hy : evo f y = some (.int k b)) (h0 : b ≠ 0) (hr : k.wrap (a.tdiv b) = r) : Pure P (.binOp .quo tx x y ty) f (.int k r) := fun ρ hρ d ty pos aft g w => by
 simp [execOp, hρ _ _ hx, hρ _ _ hy, eqGuard, binOp, Op.intDiv, h0, hr]
theorem Pure.rem (hx : evo f x = some (.int k a)) (hy : evo f y = some (.int k b)) (h0 : b ≠ 0) (hr : a.tmod b = r) : Pure P (.binOp .rem tx x y ty) f (.int k r) := fun ρ hρ d ty pos aft g w => by
 simp [execOp, hρ _ _ hx, hρ _ _ hy, eqGuard, binOp, Op.intDiv, h0, hr]
theorem Pure.lss (hx : evo f x = some (.int k a)) (hy : evo f y = some (.int k b)) : Pure P (.binOp .lss tx x y ty) f (.bool (decide (a < b))) := fun ρ hρ d ty pos aft g w => by
 simp [execOp, hρ _ _ hx, hρ _ _ hy, eqGuard, binOp, Op.intCmp]
theorem Pure.leq (hx : evo f x = some (.int k a)) (hy : evo f y = some (.int k b)) : Pure P (.binOp .leq tx x y ty) f (.bool (decide (a ≤ b))) := fun ρ hρ d ty pos aft g w => by
 simp [execOp, hρ _ _ hx, hρ _ _ hy, eqGuard, binOp, Op.intCmp]
theorem Pure.gtr (hx : evo f x = some (.int k a)) (hy : evo f y = some (.int k b)) : Pure P (.binOp .gtr tx x y ty) f (.bool (decide (b < a))) := fun ρ hρ d ty pos aft g w => by
 simp [execOp, hρ _ _ hx, hρ _ _ hy, eqGuard, binOp, Op.intCmp]
theorem Pure.geq (hx : evo f x = some (.int k a)) (hy : evo f y = some (.int k b)) : Pure P (.binOp .geq tx x y ty) f (.bool (decide (b ≤ a))) := fun ρ hρ d ty pos aft g w => by
 simp [execOp, hρ _ _ hx, hρ _ _ hy, eqGuard, binOp, Op.intCmp]
theorem Pure.eql (hx : evo f x = some (.int k a)) (hy : evo f y = some (.int k b)) : Pure P (.binOp .eql tx x y ty) f (.bool (decide (a = b))) := fun ρ hρ d ty pos aft g w => by
 simp [execOp, hρ _ _ hx, hρ _ _ hy, eqGuard, binOp, Op.intCmp]; rfl
theorem Pure.neq (hx : evo f x = some (.int k a)) (hy : evo f y = some (.int k b)) : Pure P (.binOp .neq tx x y ty) f (.bool (!decide (a = b))) := fun ρ hρ d ty pos aft g w => by
 simp [execOp, hρ _ _ hx, hρ _ _ hy, eqGuard, binOp, Op.intCmp]; rfl
theorem Pure.neg (hx : evo f x = some (.int k a)) (hr : k.wrap (-a) = r) : Pure P (.unOp .neg tx x) f (.int k r) := fun ρ hρ d ty pos aft g w => by
 simp [execOp, hρ _ _ hx, Op.unary, Op.intArith, hr]
theorem Pure.not {t : Bool} (hx : evo f x = some (.bool t)) : Pure P (.unOp .not tx x) f (.bool (!t)) := fun ρ hρ d ty pos aft g w => by
 simp [execOp, hρ _ _ hx, Op.unary]
theorem Pure.cvt {k' k0 : IntKind} (hs : P.underlying tx = some (.int k0)) (ht : P.underlying ty = some (.int k')) (hx : evo f x = some (.int k a)) (hr : k'.wrap a = r) : Pure P (.convert tx ty x) f (.int k' r) := fun ρ hρ d ty' pos aft g w => by
 simp [execOp, hρ _ _ hx, convert, run_underlying hs, run_underlying ht, Conv.intToInt, hr]
end ints
section strings
variable {x y : Operand} {l m : List UInt8} {tx ty : TypeId}
theorem Pure.len {at' : TypeId} (hu : P.underlying at' = some .string) (hx : evo f x = some (.string (bs l))) : Pure P (.call ⟨.builtin .len, #[x], #[at']⟩) f (.int .i64 (l.length : Int)) := fun ρ hρ d ty pos aft g w => by
 simp [execOp, resolve, invoke, builtin, Builtin.len_, run_underlying hu, hρ _ _ hx, goInt, bs_size]
theorem Pure.ix {i : Int} (hu : P.underlying tx = some .string) (hx : evo f x = some (.string (bs l))) (hi : evo f y = some (.int .i64 i)) (k : Nat) (e : i = k) (hk : k < l.length) : Pure P (.index tx x y) f (.int .u8 (l[k].toNat : Int)) := fun ρ hρ d ty pos aft g w => by
 subst e
 have h1 : (bs l)[k]? = some l[k] := by
  have : k < (bs l).size := by rw [bs_size]; exact hk
  rw [getElem?_pos (bs l) k this]; rfl
 simp [execOp, Instr.index, hρ _ _ hx, hρ _ _ hi, asIntOf, run_underlying hu, h1]
theorem Pure.slF {i : Int} (hu : P.underlying tx = some .string) (hx : evo f x = some (.string (bs l))) (hi : evo f y = some (.int .i64 i)) (k : Nat) (e : i = k) (hk : k ≤ l.length) : Pure P (.slice tx x (some y) none none) f (.string (bs (l.drop k))) := fun ρ hρ d ty pos aft g w => by
 subst e
 have h2 : (l.drop k).take (l.length - k) = l.drop k := List.take_of_length_le (by simp)
 simp [execOp, Instr.sliceAt, Instr.slice, Instr.sliceBounds, Instr.sliceBound, hρ _ _ hx, hρ _ _ hi, asIntOf, run_underlying hu, hk, fbs_extract, bs_size, h2]
theorem Pure.slT {i : Int} (hu : P.underlying tx = some .string) (hx : evo f x = some (.string (bs l))) (hi : evo f y = some (.int .i64 i)) (k : Nat) (e : i = k) (hk : k ≤ l.length) : Pure P (.slice tx x none (some y) none) f (.string (bs (l.take k))) := fun ρ hρ d ty pos aft g w => by
 subst e
 simp [execOp, Instr.sliceAt, Instr.slice, Instr.sliceBounds, Instr.sliceBound, hρ _ _ hx, hρ _ _ hi, asIntOf, run_underlying hu, hk, fbs_extract, bs_size]
theorem Pure.cat (hx : evo f x = some (.string (bs l))) (hy : evo f y = some (.string (bs m))) (hlen : l.length + m.length ≤ 9223372036854775807) : Pure P (.binOp .add tx x y ty) f (.string (bs (l ++ m))) := fun ρ hρ d ty pos aft g w => by
 have h : (l.length : Int) + (m.length : Int) ≤ 9223372036854775807 := by omega
 simp [execOp, hρ _ _ hx, hρ _ _ hy, eqGuard, binOp, Op.stringOp, bs_append, bs_size, h]
theorem Pure.eqs (hx : evo f x = some (.string (bs l))) (hy : evo f y = some (.string (bs m))) : Pure P (.binOp .eql tx x y ty) f (.bool (decide (l = m))) := fun ρ hρ d ty pos aft g w => by
 simp [execOp, hρ _ _ hx, hρ _ _ hy, eqGuard, binOp, Op.stringOp, fbs_toList, beq_dec]
theorem Pure.nes (hx : evo f x = some (.string (bs l))) (hy : evo f y = some (.string (bs m))) : Pure P (.binOp .neq tx x y ty) f (.bool (!decide (l = m))) := fun ρ hρ d ty pos aft g w => by
 simp [execOp, hρ _ _ hx, hρ _ _ hy, eqGuard, binOp, Op.stringOp, fbs_toList, beq_dec]
/-- a part of several results -/
theorem Pure.ext {i : Nat} {vs : Array Value} {v : Value} (hx : evo f x = some (.tuple vs)) (hv : vs[i]? = some v) : Pure P (.extract x i) f v := fun ρ hρ d ty pos aft g w => by
 simp [execOp, hρ _ _ hx, Instr.extract, hv]
end strings
/-- a function with a body of its own -/
def HasBody (P : Program) (F : FuncId) : Prop := ∃ fn, P.funcs[F]? = some fn ∧ fn.body ≠ none ∧ fn.name ≠ "runtime.NumGoroutine"
theorem hasBody {F : FuncId} {fn : Func} (hf : P.funcs[F]? = some fn) (hb : (fn.body.isNone || fn.name == "runtime.NumGoroutine") = false) : HasBody P F := by
 simp only [Bool.or_eq_false_iff] at hb
 exact ⟨fn, hf, fun h => by rw [h] at hb; exact absurd hb.1 dD, fun h => by rw [h] at hb; exact absurd hb.2 dD⟩
/-- the values of operands -/
def evs (f : Fr) : List Operand → Option (List Value)
 | [] => some []
 | x :: r => match evo f x, evs f r with
  | some v, some vs => some (v :: vs)
  | _, _ => none
theorem evs_map {ρ : Operand → Value} (hρ : Agr f ρ) : ∀ (xs : List Operand) (vs : List Value), evs f xs = some vs → xs.map ρ = vs
 | [], vs, h => by simp only [evs, Option.some.injEq] at h; subst h; rfl
 | x :: r, vs, h => by
  unfold evs at h
  cases hx : evo f x with
  | none => rw [hx] at h; cases h
  | some v =>
   cases hr : evs f r with
   | none => rw [hx, hr] at h; cases h
   | some us =>
    rw [hx, hr] at h
    simp only [Option.some.injEq] at h
    subst h
    simp [hρ _ _ hx, evs_map hρ r us hr]
theorem run_callOp {F : FuncId} (hb : HasBody P F) {ρ : Operand → Value} (hρ : Agr f ρ) {xs : List Operand} {vs : List Value} (hx : evs f xs = some vs) {ats : Array TypeId} (d : Option Tmp) (ty : TypeId) (pos : String) (aft : Array Edge) (g : Option (Nat × Bool)) (w : World) :
  (execOp ρ ⟨d, .call ⟨.value (.func F), xs.toArray, ats⟩, ty, pos, aft, g⟩).run P w = .ok (.enter F vs.toArray) w := by
 obtain ⟨fn, h1, h2, h3⟩ := hb
 have e := evs_map hρ _ _ hx
 have hfn : ρ (.func F) = .func (.func F) #[] #[] := hρ _ _ rfl
 have hargs : xs.toArray.map ρ = vs.toArray := by simp [e]
 unfold execOp
 simp only [resolve, hargs, hfn]
 simp [Deferred.ofValue, invoke, callFunc, run_program, h1, h2, h3]
/-- a call, by a contract -/
theorem WL.call {ops : Array Oper} {Q : Exit → Fr → World → Prop} {w : World} {rest : List Oper} {d ty : Nat} {pos : String} {aft : Array Edge} {F : FuncId} {xs : List Operand} {ats : Array TypeId} {vs : List Value} {α : Sort _}
  {V : α → Value} {S : α → World → Prop} (hb : HasBody P F) (hx : evs f xs = some vs) (hd : Nat.blt d n.n = true)
  (hc : Calls P F vs.toArray w fun e w' => ∃ t, e = .returned (V t) ∧ S t w') (k : ∀ t w', S t w' → WL P n ops Q rest ((d, V t) :: f) w') :
  WL P n ops Q (⟨some d, .call ⟨.value (.func F), xs.toArray, ats⟩, ty, pos, aft, none⟩ :: rest) f w := by
 intro a ha
 refine wpList_plain rfl fun K hK => ?_
 unfold Oper.wp
 rw [run_callOp hb ha.agr hx, Oper.upon_enter]
 refine hc.mono ?_
 rintro e w' ⟨t, rfl, hS⟩
 exact hK _ _ (k t w' hS _ (ha.put hd _))
/-- a panic of the text's own -/
theorem WL.pn {ops : Array Oper} {Q : Exit → Fr → World → Prop} {w : World} {rest : List Oper} {d : Option Tmp} {ty : Nat} {pos : String} {aft : Array Edge} {op : Op} {v : Value}
  (h : ∀ ρ, Agr f ρ → (execOp ρ ⟨d, op, ty, pos, aft, none⟩).run P w = .halt (.panic v) w) (k : Q (.panic [{ v, recovered := false }]) f w) :
  WL P n ops Q (⟨d, op, ty, pos, aft, none⟩ :: rest) f w := by
 intro a ha
 refine wpList_plain rfl fun K hK => ?_
 unfold Oper.wp
 rw [h _ ha.agr, Oper.upon_panic]
 exact ⟨f, ha, k⟩
/-- a call, by a contract that tells one value -/
theorem WL.c1 {ops : Array Oper} {Q : Exit → Fr → World → Prop} {w : World} {rest : List Oper} {d ty : Nat} {pos : String} {aft : Array Edge} {F : FuncId} {xs : List Operand} {ats : Array TypeId} {vs : List Value}
  {V : Value} {S : World → Prop} (hb : HasBody P F) (hx : evs f xs = some vs) (hd : Nat.blt d n.n = true)
  (hc : Calls P F vs.toArray w fun e w' => e = .returned V ∧ S w') (k : ∀ w', S w' → WL P n ops Q rest ((d, V) :: f) w') :
  WL P n ops Q (⟨some d, .call ⟨.value (.func F), xs.toArray, ats⟩, ty, pos, aft, none⟩ :: rest) f w :=
 WL.call (α := Unit) (V := fun _ => V) (S := fun _ => S) hb hx hd (hc.mono fun _ _ h => ⟨(), h⟩) (fun _ => k)
/-- a block of cells that may be written -/
def Blk (w : World) (b : Nat) (cs : Array Value) (t : TypeId) : Prop := w.heap[b]? = some (.cells cs t (0, 0))
/-- w1 is w but for one block, which may be new -/
structure Upd (b : Nat) (w w1 : World) : Prop where
 os : w1.os = w.os
 tape : w1.tape = w.tape
 output : w1.output = w.output
 size : w.heap.size ≤ w1.heap.size
 other : ∀ k, k ≠ b → w1.heap[k]? = w.heap[k]?
theorem Blk.lt {w : World} {b : Nat} {cs : Array Value} {t : TypeId} (h : Blk w b cs t) : b < w.heap.size := (Array.getElem?_eq_some_iff.1 h).1
theorem Upd.below {B b : Nat} {w0 w w1 : World} (hb : Below B w0 w) (hB : B ≤ b) (h : Upd b w w1) : Below B w0 w1 :=
 ⟨h.os.trans hb.os, h.tape.trans hb.tape, h.output.trans hb.output, Nat.le_trans hb.size h.size, fun k hk => (h.other k oO).trans (hb.block k hk)⟩
theorem Blk.upd {w w1 : World} {b c : Nat} {cs : Array Value} {t : TypeId} (h : Blk w c cs t) (hu : Upd b w w1) (hne : c ≠ b) : Blk w1 c cs t := (hu.other c hne).trans h
theorem Blk.up {w w1 : World} {b c : Nat} {cs : Array Value} {t : TypeId} (h : Blk w c cs t) (hu : Upd b w w1) (hne : c ≠ b := by ((try simp only) <;> omega)) : Blk w1 c cs t := h.upd hu hne
theorem Blk.below {w w1 : World} {B c : Nat} {cs : Array Value} {t : TypeId} (h : Blk w c cs t) (hb : Below B w w1) (hc : c < B) : Blk w1 c cs t := (hb.block c hc).trans h
theorem Upd.alloc (w : World) (o : Obj) : Upd w.heap.size w (w.alloc o) := ⟨rfl, rfl, rfl, by simp, fun k hk => by
 show (w.heap.push o)[k]? = _
 rw [Array.getElem?_push, if_neg hk]⟩
theorem Upd.setRow (w : World) (b : Nat) (cs : Array Value) : Upd b w (w.setRow b cs) := ⟨rfl, rfl, rfl, by simp [World.setRow], fun k hk => by
 simp only [World.setRow, Array.getElem?_modify]
 rw [if_neg oO]⟩
theorem Upd.setCell (w : World) (b o : Nat) (v : Value) : Upd b w (w.setCell ⟨b, o, none⟩ v) := ⟨rfl, rfl, rfl, by simp [World.setCell], fun k hk => by
 simp only [World.setCell, Array.getElem?_modify]
 rw [if_neg oO]⟩
theorem Blk.alloc (w : World) (cs : Array Value) (t : TypeId) : Blk (w.alloc (.cells cs t)) w.heap.size cs t := by
 show (w.heap.push _)[w.heap.size]? = _
 simp
theorem Blk.setCell {w : World} {b : Nat} {cs : Array Value} {t : TypeId} (h : Blk w b cs t) (o : Nat) (v : Value) : Blk (w.setCell ⟨b, o, none⟩ v) b (cs.setIfInBounds o v) t := by
 unfold Blk at *
 simp [World.setCell, Array.getElem?_modify, h]
theorem Blk.cell {w : World} {b : Nat} {cs : Array Value} {t : TypeId} (h : Blk w b cs t) (o : Nat) : w.cell? ⟨b, o, none⟩ = cs[o]? := cell_of_row w b o cs t (0, 0) h
theorem Blk.free {w : World} {b : Nat} {cs : Array Value} {t : TypeId} (h : Blk w b cs t) (o : Nat) : w.frozen? ⟨b, o, none⟩ = false := by
 unfold Blk at h
 simp [World.frozen?, h]
section mem
variable {ops : Array Oper} {Q : Exit → Fr → World → Prop} {w : World} {rest : List Oper} {d ty : Nat} {pos : String} {aft : Array Edge}
/-- a new variable -/
theorem WL.alloc {t : TypeId} {z : Value} (hz : ∀ w, (zeroValue t).run P w = .ok z w) (hd : Nat.blt d n.n = true)
  (k : ∀ b w1, b = w.heap.size → Blk w1 b z.cells t → Upd b w w1 → w1.heap.size = b + 1 → WL P n ops Q rest ((d, .pointer (some ⟨b, 0, none⟩)) :: f) w1) :
  WL P n ops Q (⟨some d, .alloc t, ty, pos, aft, none⟩ :: rest) f w :=
 WL.run hd (w' := w.alloc (.cells z.cells t)) (v := .pointer (some ⟨w.heap.size, 0, none⟩)) (fun ρ hρ => by
  simp [execOp, Instr.alloc, hz, newVar, newRow]) (k _ _ rfl (Blk.alloc _ _ _) (Upd.alloc _ _) (by simp))
/-- a new variable with a value -/
theorem WL.box {t : TypeId} {x : Operand} {v : Value} (hx : evo f x = some v) (hd : Nat.blt d n.n = true)
  (k : ∀ b w1, b = w.heap.size → Blk w1 b v.cells t → Upd b w w1 → w1.heap.size = b + 1 → WL P n ops Q rest ((d, .pointer (some ⟨b, 0, none⟩)) :: f) w1) :
  WL P n ops Q (⟨some d, .box t x, ty, pos, aft, none⟩ :: rest) f w :=
 WL.run hd (w' := w.alloc (.cells v.cells t)) (v := .pointer (some ⟨w.heap.size, 0, none⟩)) (fun ρ hρ => by
  simp [execOp, Instr.box, hρ _ _ hx, newVar, newRow]) (k _ _ rfl (Blk.alloc _ _ _) (Upd.alloc _ _) (by simp))
/-- a variable of several cells is stored -/
theorem WL.stA {t tb : TypeId} {x y : Operand} {b : Nat} {old cs : Array Value} (hx : evo f x = some (.pointer (some ⟨b, 0, none⟩))) (hy : evo f y = some (.agg cs)) (hb : Blk w b old tb)
  (hi : (P.info? t).map (·.size) = some cs.size) (ho : old.size = cs.size) (h1 : cs.all (·.oneCell') = true)
  (k : ∀ w1, Blk w1 b cs tb → Upd b w w1 → w1.heap.size = w.heap.size → WL P n ops Q rest f w1) :
  WL P n ops Q (⟨none, .store t x y, ty, pos, aft, none⟩ :: rest) f w :=
 WL.act (w' := w.setRow b cs) (fun ρ hρ => by
  unfold execOp
  simp only [hρ _ _ hx, hρ _ _ hy, Instr.storeAt, Instr.sureAddr, Sem.run_bind, Sem.run_pure, Result.andThen_ok, run_storeVar_row w b tb t old cs hb hi ho h1])
  (k _ (setRow_heap w b old cs tb (0, 0) hb) (Upd.setRow _ _ _) (by simp [World.setRow]))
/-- a variable of several cells is read -/
theorem WL.ldA {t tb : TypeId} {x : Operand} {b : Nat} {cs : Array Value} {dd : TypeDesc} (hx : evo f x = some (.pointer (some ⟨b, 0, none⟩))) (hb : Blk w b cs tb)
  (hu : P.underlying t = some dd) (hdd : (match dd with | .struct _ | .array _ _ => true | _ => false) = true) (hi : (P.info? t).map (·.size) = some cs.size) (hd : Nat.blt d n.n = true)
  (k : WL P n ops Q rest ((d, .agg cs) :: f) w) : WL P n ops Q (⟨some d, .load t x, ty, pos, aft, none⟩ :: rest) f w :=
 WL.run hd (fun ρ hρ => by
  unfold execOp
  simp only [hρ _ _ hx, Instr.loadAt, Instr.sureAddr, Sem.run_bind, Sem.run_pure, Result.andThen_ok, run_loadVar_row w b tb t cs (0, 0) dd hb hu hdd hi]) k
/-- a struct's value out of its parts -/
theorem Pure.build {t : TypeId} {ps : List (Nat × Operand)} {vs : List Value} {cs : Array Value} (hx : evs f (ps.map (·.2)) = some vs) (hb : P.built t ((ps.map (·.1)).zip vs) = some cs) : Pure P (.build t ps.toArray) f (.agg cs) := fun ρ hρ d ty pos aft g w => by
 have e := evs_map hρ _ _ hx
 have e2 : (ps.toArray.map fun (i, x) => (i, ρ x)).toList = (ps.map (·.1)).zip vs := by
  rw [← e]
  simp only [List.map_map, Array.toList_map]
  clear hx hb e
  induction ps with
  | nil => rfl
  | cons p r ih => simpa using ih
 unfold execOp
 simp only [Sem.run_bind, run_build w t _ cs (by rw [e2]; exact hb), Result.andThen_ok, Sem.run_pure]
end mem
end
section
variable {P : Program} {n : Sh} {f : Fr}
/-- an operation that only reads: its value in this world -/
def Rd (P : Program) (op : Op) (f : Fr) (w : World) (v : Value) : Prop := ∀ ρ, Agr f ρ → ∀ d ty pos aft g, (execOp ρ ⟨d, op, ty, pos, aft, g⟩).run P w = .ok (.value v) w
theorem Pure.rd {op : Op} {v : Value} {w : World} (h : Pure P op f v) : Rd P op f w v := fun ρ hρ d ty pos aft g => h ρ hρ d ty pos aft g w
theorem Rd.ld {t tb : TypeId} {x : Operand} {b o : Nat} {cs : Array Value} {v : Value} {w : World} (ha : (isAgg t).run P w = .ok false w) (hx : evo f x = some (.pointer (some ⟨b, o, none⟩))) (hb : Blk w b cs tb) (hv : cs[o]? = some v) :
  Rd P (.load t x) f w v := fun ρ hρ d ty pos aft g => by
 have hc := (hb.cell o).trans hv
 simp [execOp, hρ _ _ hx, Instr.loadAt, Instr.sureAddr, loadVar, ha, hc]
theorem Rd.ldc {t : TypeId} {x : Operand} {p : Addr} {v : Value} {w : World} (ha : (isAgg t).run P w = .ok false w) (hx : evo f x = some (.pointer (some p))) (hv : w.cell? p = some v) :
  Rd P (.load t x) f w v := fun ρ hρ d ty pos aft g => by
 simp [execOp, hρ _ _ hx, Instr.loadAt, Instr.sureAddr, loadVar, ha, hv]
theorem Rd.ldA {t tb : TypeId} {x : Operand} {b : Nat} {cs : Array Value} {dd : TypeDesc} {w : World} (hx : evo f x = some (.pointer (some ⟨b, 0, none⟩))) (hb : Blk w b cs tb)
  (hu : P.underlying t = some dd) (hdd : (match dd with | .struct _ | .array _ _ => true | _ => false) = true) (hi : (P.info? t).map (·.size) = some cs.size) : Rd P (.load t x) f w (.agg cs) := fun ρ hρ d ty pos aft g => by
 unfold execOp
 simp only [hρ _ _ hx, Instr.loadAt, Instr.sureAddr, Sem.run_bind, Sem.run_pure, Result.andThen_ok, run_loadVar_row w b tb t cs (0, 0) dd hb hu hdd hi]
/-- the length of a slice -/
theorem Pure.lenS {at' e : TypeId} {x : Operand} {p : Option Addr} {l c : Nat} (hu : P.underlying at' = some (.slice e)) (hx : evo f x = some (.slice p l c)) : Pure P (.call ⟨.builtin .len, #[x], #[at']⟩) f (.int .i64 (l : Int)) := fun ρ hρ d ty pos aft g w => by
 simp [execOp, resolve, invoke, builtin, Builtin.len_, run_underlying hu, hρ _ _ hx, goInt]
/-- the address of a slice's element -/
theorem Pure.ixa {tx e : TypeId} {x y : Operand} {p : Addr} {l c sz : Nat} {i : Int} {k : IntKind} (hu : P.underlying tx = some (.slice e)) (hs : ∀ w, (sizeOf e).run P w = .ok sz w) (hx : evo f x = some (.slice (some p) l c))
  (hi : evo f y = some (.int k i)) (j : Nat) (e' : i = j) (hj : j < l) : Pure P (.indexAddr tx x y) f (.pointer (some (p.add (j * sz)))) := fun ρ hρ d ty pos aft g w => by
 subst e'
 simp [execOp, Instr.indexAt, hρ _ _ hx, hρ _ _ hi, asIntOf, run_underlying hu, hs, hj]
/-- the address of a field -/
theorem Pure.fa {s : TypeId} {x : Operand} {p : Addr} {i : Nat} {fs : Array Field} {fd : Field} {sz : Nat} (hu : P.underlying s = some (.struct fs)) (hf : fs[i]? = some fd) (hs : ∀ w, (sizeOf fd.type).run P w = .ok sz w) (h0 : sz ≠ 0)
  (hx : evo f x = some (.pointer (some p))) : Pure P (.fieldAddr s x i) f (.pointer (some (p.add fd.offset))) := fun ρ hρ d ty pos aft g w => by
 simp [execOp, Instr.fieldAt, hρ _ _ hx, run_underlying hu, hf, Instr.sureAddr, fieldPlace, hs, h0]
/-- a check against nil -/
theorem Pure.nck {x : Operand} {p : Addr} (hx : evo f x = some (.pointer (some p))) : Pure P (.nilCheck x) f (.pointer (some p)) := fun ρ hρ d ty pos aft g w => by
 simp [execOp, hρ _ _ hx]
theorem WL.r {ops : Array Oper} {Q : Exit → Fr → World → Prop} {w : World} {rest : List Oper} {d ty : Nat} {pos : String} {aft : Array Edge} {op : Op} {v : Value}
  (h : Rd P op f w v) (hd : Nat.blt d n.n = true) (k : WL P n ops Q rest ((d, v) :: f) w) : WL P n ops Q (⟨some d, op, ty, pos, aft, none⟩ :: rest) f w :=
 WL.run hd (fun ρ hρ => h ρ hρ _ _ _ _ _) k
/-- one cell is stored -/
theorem WL.st {ops : Array Oper} {Q : Exit → Fr → World → Prop} {w : World} {rest : List Oper} {ty : Nat} {pos : String} {aft : Array Edge} {t tb : TypeId} {x y : Operand} {b o : Nat} {cs : Array Value} {v : Value}
  (hs : ∀ w, (sizeOf t).run P w = .ok 1 w) (hx : evo f x = some (.pointer (some ⟨b, o, none⟩))) (hy : evo f y = some v) (h1 : v.oneCell' = true) (hb : Blk w b cs tb) (ho : o < cs.size)
  (k : ∀ w1, Blk w1 b (cs.setIfInBounds o v) tb → Upd b w w1 → w1.heap.size = w.heap.size → WL P n ops Q rest f w1) : WL P n ops Q (⟨none, .store t x y, ty, pos, aft, none⟩ :: rest) f w :=
 WL.act (w' := w.setCell ⟨b, o, none⟩ v) (fun ρ hρ => by
  have hc : w.cell? ⟨b, o, none⟩ = some cs[o] := by rw [hb.cell o]; simp [ho]
  have hf := hb.free o
  have hst := run_store P w ⟨b, o, none⟩ v .plain h1
  have hcs : v.cells = #[v] := by cases v <;> first | rfl | cases h1
  have h0 : (⟨b, o, none⟩ : Addr).add 0 = ⟨b, o, none⟩ := by simp [Addr.add]
  simp [execOp, hρ _ _ hx, hρ _ _ hy, Instr.storeAt, Instr.sureAddr, storeVar, hcs, hs, storeCells, h0, hst, hc, hf])
  (k _ (hb.setCell o v) (Upd.setCell w b o v) (by simp [World.setCell]))
/-- a guard that was passed over itself -/
theorem yielded_undef {a : Act} {ops : Array Oper} {j dj : Nat} (ha : Rep n f a) (hj : (ops[j]?).bind (·.dst) = some dj) (ht : look f dj = some undef) : yielded ops a.tmps j = none := by
 have hval := ha.2.2 _ _ ht
 unfold yielded
 cases ho : ops[j]? with
 | none => rw [ho] at hj; cases hj
 | some o =>
  rw [ho] at hj
  simp only [Option.bind_some] at hj
  cases h : a.tmps[dj]? with
  | none => simp [hj, h]
  | some v =>
   rw [Array.getD_eq_getD_getElem?, h] at hval
   simp only [Option.getD_some] at hval
   subst hval
   simp [hj, h, undef]
theorem WL.gu {ops : Array Oper} {Q : Exit → Fr → World → Prop} {w : World} {rest : List Oper} {d ty : Nat} {pos : String} {aft : Array Edge} {op : Op} {j dj : Nat} {b : Bool}
  (hj : (ops[j]?).bind (·.dst) = some dj) (ht : look f dj = some undef) (hd : Nat.blt d n.n = true)
  (hn : WL P n ops Q rest ((d, undef) :: f) w) : WL P n ops Q (⟨some d, op, ty, pos, aft, some (j, b)⟩ :: rest) f w := by
 intro a ha
 have hyl := yielded_undef ha hj ht
 have := hn _ (ha.put hd undef)
 unfold wpList
 simp only [Region.wanted, hyl]
 exact this
/-- more is known -/
def Le (g f : Fr) : Prop := ∀ i v, look g i = some v → look f i = some v
theorem Le.refl (f : Fr) : Le f f := fun _ _ h => h
theorem Le.cons {g f : Fr} {d : Nat} {v : Value} (hd : look g d = none) (h : Le g f) : Le g ((d, v) :: f) := by
 intro i u hu
 unfold look
 cases hb : Nat.beq d i with
 | true =>
  obtain rfl : d = i := Nat.eq_of_beq_eq_true hb
  rw [hd] at hu; cases hu
 | false => exact h i u hu
theorem Le.put {g f : Fr} (h : Le g f) {d : Nat} {v : Value} (hd : look f d = some v) : Le ((d, v) :: g) f := by
 intro i u hu
 unfold look at hu
 cases hb : Nat.beq d i with
 | true =>
  rw [hb] at hu
  obtain rfl : d = i := Nat.eq_of_beq_eq_true hb
  rw [hd]; exact hu
 | false => rw [hb] at hu; exact h i u hu
/-- a cut behind a test: the test's slot holds this -/
theorem W.cutB {x y : Code} {Q : Exit → Fr → World → Prop} {w : World} (c : Nat) (T : Bool)
  (h1 : W P n x (nx (fun f' w' => (look f' c = some (.bool T) ∧ Le f f') ∧ w' = w) Q) f w) (h2 : W P n y Q ((c, .bool T) :: f) w) : W P n (.seq x y) Q f w := by
 refine W.seq (h1.mono ?_)
 intro e f' w' h
 cases e with
 | normal =>
  obtain ⟨⟨hc, hle⟩, rfl⟩ := h
  exact fun a ha => h2 a ⟨ha.1, ha.2.1, fun i v hv => ha.2.2 i v (hle.put hc i v hv)⟩
 | _ => exact h
theorem ndT {p : Prop} [Decidable p] (h : (!decide p) = true) : ¬ p := by simpa using h
theorem ndF {p : Prop} [Decidable p] (h : (!decide p) = false) : p := by simpa using h
theorem nT {t : Bool} (h : (!t) = true) : t = false := by simpa using h
theorem nF {t : Bool} (h : (!t) = false) : t = true := by simpa using h
theorem lk_b {f : Fr} {i : Nat} {s t : Bool} (h : look f i = some (.bool s)) (e : s = t) : look f i = some (.bool t) := by rw [h, e]
theorem leF {f g : Fr} {c : Nat} {s t : Bool} (h : look g c = some (.bool s)) (e : s = t := by first | (simp; omega) | (exfalso; simp_all; omega) | (exfalso; omega)) (k : Le f g := by repeat (first | exact Le.refl _ | refine Le.cons rfl ?_)) : look g c = some (.bool t) ∧ Le f g := ⟨lk_b h e, k⟩
theorem leE {f g : Fr} {c : Nat} {t : Bool} (h : look g c = some (.bool t)) (k : Le f g := by repeat (first | exact Le.refl _ | refine Le.cons rfl ?_)) : look g c = some (.bool t) ∧ Le f g := ⟨h, k⟩
theorem lk_i {f : Fr} {i : Nat} {k : IntKind} {s t : Int} (h : look f i = some (.int k s)) (e : s = t) : look f i = some (.int k t) := by rw [h, e]
theorem lk_s {f : Fr} {i : Nat} {s t : List UInt8} (h : look f i = some (.string (bs s))) (e : s = t) : look f i = some (.string (bs t)) := by rw [h, e]
/-- w1 is w after some draws -/
def Drew (w w1 : World) : Prop := ∃ m, w1 = w.drewN m
theorem Drew.refl (w : World) : Drew w w := ⟨0, rfl⟩
theorem Drew.trans {a b c : World} (h : Drew a b) (k : Drew b c) : Drew a c := by
 obtain ⟨m, rfl⟩ := h; obtain ⟨j, rfl⟩ := k; exact ⟨m + j, by rw [World.drewN_drewN]⟩
theorem Drew.below {B : Nat} {w0 w w1 : World} (h : Below B w0 w) (d : Drew w w1) : Below B w0 w1 := by
 obtain ⟨m, rfl⟩ := d; exact ⟨h.os, h.tape, h.output, h.size, h.block⟩
theorem Drew.size {w w1 : World} (d : Drew w w1) : w1.heap.size = w.heap.size := by obtain ⟨m, rfl⟩ := d; rfl
theorem Blk.drew {w w1 : World} {b : Nat} {cs : Array Value} {t : TypeId} (h : Blk w b cs t) (d : Drew w w1) : Blk w1 b cs t := by obtain ⟨m, rfl⟩ := d; exact h
/-- the first N operations only read; what stands behind comes in the text's order -/
def WS (P : Program) (n : Sh) (ops : Array Oper) (Q : Exit → Fr → World → Prop) (tail : List Oper) (w : World) (l : List Oper) (f : Fr) : Prop :=
 ∀ a, Rep n f a → wpStill P ops w (fun a' => wpList P ops (lift n Q) tail a' w) l a
section
variable {ops : Array Oper} {Q : Exit → Fr → World → Prop} {w : World} {tail rest : List Oper} {d ty : Nat} {pos : String} {aft : Array Edge} {op : Op} {v : Value}
theorem WS.nil (h : WL P n ops Q tail f w) : WS P n ops Q tail w [] f := fun a ha => wpStill_nil (h a ha)
theorem WS.r (h : Rd P op f w v) (hd : Nat.blt d n.n = true) (k : WS P n ops Q tail w rest ((d, v) :: f)) : WS P n ops Q tail w (⟨some d, op, ty, pos, aft, none⟩ :: rest) f := by
 intro a ha
 unfold wpStill
 rw [if_pos (by simp [Region.wanted])]
 unfold Oper.still
 rw [h _ ha.agr]
 exact ⟨rfl, k _ (ha.put hd v)⟩
theorem WS.p (h : Pure P op f v) (hd : Nat.blt d n.n = true) (k : WS P n ops Q tail w rest ((d, v) :: f)) : WS P n ops Q tail w (⟨some d, op, ty, pos, aft, none⟩ :: rest) f := WS.r h.rd hd k
end
def WQ (P : Program) (n : Sh) (ops : Array Oper) (Q : Exit → Fr → World → Prop) (w : World) (l : List Oper) (f : Fr) : Prop :=
 ∀ a, Rep n f a → wpQuiet P ops (fun w' => ∃ m, w' = w.drewN m) (fun a' => ∀ w', (∃ m, w' = w.drewN m) → lift n Q .normal a' w') l a
theorem W.regQ {Q : Exit → Fr → World → Prop} {w : World} {id : Nat} {l : List Oper} (hm : P.follows .mixedOrders = true) (hB : Region.lexB .any l.toArray = true) (h : WQ P n l.toArray Q w l f) : W P n (.region id l.toArray true) Q f w :=
 fun a ha => wp_region_quiet_lit hm hB (h a ha)
section
variable {ops : Array Oper} {Q : Exit → Fr → World → Prop} {w : World} {rest : List Oper} {d ty : Nat} {pos : String} {aft : Array Edge} {op : Op} {v : Value}
theorem WQ.nil (h : ∀ w1, Drew w w1 → Q .normal f w1) : WQ P n ops Q w [] f := fun _ ha => wpQuiet_nil fun w' e => ⟨f, ha, h w' e⟩
theorem WQ.r (h : ∀ m, Rd P op f (w.drewN m) v) (hd : Nat.blt d n.n = true) (k : WQ P n ops Q w rest ((d, v) :: f)) : WQ P n ops Q w (⟨some d, op, ty, pos, aft, none⟩ :: rest) f := by
 intro a ha
 unfold wpQuiet
 rw [if_pos (by simp [Region.wanted])]
 refine ⟨v, ?_, k _ (ha.put hd v)⟩
 rintro w' ⟨m, rfl⟩
 unfold Oper.quietAt
 rw [h m _ ha.agr]
 exact ⟨rfl, rfl⟩
theorem WQ.p (h : Pure P op f v) (hd : Nat.blt d n.n = true) (k : WQ P n ops Q w rest ((d, v) :: f)) : WQ P n ops Q w (⟨some d, op, ty, pos, aft, none⟩ :: rest) f := WQ.r (fun _ => h.rd) hd k
theorem WQ.gd {j dj : Nat} {b t : Bool} (hj : (ops[j]?).bind (·.dst) = some dj) (ht : look f dj = some (.bool t)) (hd : Nat.blt d n.n = true)
    (hy : t = b → WQ P n ops Q w (⟨some d, op, ty, pos, aft, none⟩ :: rest) f) (hn : t = !b → WQ P n ops Q w rest ((d, undef) :: f)) :
    WQ P n ops Q w (⟨some d, op, ty, pos, aft, some (j, b)⟩ :: rest) f := by
  intro a ha
  have hval := ha.2.2 _ _ ht
  have hyl : yielded ops a.tmps j = some t := by
    unfold yielded
    cases ho : ops[j]? with
    | none => rw [ho] at hj; cases hj
    | some o =>
      rw [ho] at hj
      simp only [Option.bind_some] at hj
      have h1 : a.tmps[dj]? = some (.bool t) := by
        cases h : a.tmps[dj]? with
        | none => rw [Array.getD_eq_getD_getElem?, h] at hval; cases hval
        | some v => rw [Array.getD_eq_getD_getElem?, h] at hval; exact congrArg some hval
      simp [hj, h1]
  by_cases hb : t = b
  · have := hy hb a ha
    unfold wpQuiet at this ⊢
    simp only [Region.wanted, hyl, hb, beq_self_eq_true, if_true] at this ⊢
    exact this
  · have hb' : t = !b := by revert hb; cases t <;> cases b <;> decide
    have := hn hb' _ (ha.put hd undef)
    unfold wpQuiet
    have hw : (some t == some b) = false := by revert hb; cases t <;> cases b <;> decide
    simp only [Region.wanted, hyl, hw]
    exact this
theorem WQ.gy {j dj : Nat} {b t : Bool} (hj : (ops[j]?).bind (·.dst) = some dj) (ht : look f dj = some (.bool t)) (hd : Nat.blt d n.n = true) (e : t = b)
  (hy : WQ P n ops Q w (⟨some d, op, ty, pos, aft, none⟩ :: rest) f) : WQ P n ops Q w (⟨some d, op, ty, pos, aft, some (j, b)⟩ :: rest) f :=
 WQ.gd hj ht hd (fun _ => hy) (fun h => by rw [e] at h; cases b <;> cases h)
theorem WQ.gn {j dj : Nat} {b t : Bool} (hj : (ops[j]?).bind (·.dst) = some dj) (ht : look f dj = some (.bool t)) (hd : Nat.blt d n.n = true) (e : t = !b)
  (hn : WQ P n ops Q w rest ((d, undef) :: f)) : WQ P n ops Q w (⟨some d, op, ty, pos, aft, some (j, b)⟩ :: rest) f :=
 WQ.gd hj ht hd (fun h => by rw [e] at h; cases b <;> cases h) (fun _ => hn)
theorem WQ.gu {j dj : Nat} {b : Bool} (hj : (ops[j]?).bind (·.dst) = some dj) (ht : look f dj = some undef) (hd : Nat.blt d n.n = true)
  (hn : WQ P n ops Q w rest ((d, undef) :: f)) : WQ P n ops Q w (⟨some d, op, ty, pos, aft, some (j, b)⟩ :: rest) f := by
 intro a ha
 have hyl := yielded_undef ha hj ht
 have := hn _ (ha.put hd undef)
 unfold wpQuiet
 simp only [Region.wanted, hyl]
 exact this
/-- a call that only reads -/
theorem WQ.c1 {F : FuncId} {xs : List Operand} {ats : Array TypeId} {vs : List Value} (hb : HasBody P F) (hx : evs f xs = some vs) (hd : Nat.blt d n.n = true)
  (hc : ∀ m, Calls P F vs.toArray (w.drewN m) fun e w' => e = .returned v ∧ ∃ k, w' = w.drewN k) (k : WQ P n ops Q w rest ((d, v) :: f)) :
  WQ P n ops Q w (⟨some d, .call ⟨.value (.func F), xs.toArray, ats⟩, ty, pos, aft, none⟩ :: rest) f := by
 intro a ha
 unfold wpQuiet
 rw [if_pos (by simp [Region.wanted])]
 refine ⟨v, ?_, k _ (ha.put hd v)⟩
 rintro w' ⟨m, rfl⟩
 unfold Oper.quietAt
 rw [run_callOp hb ha.agr hx]
 exact ⟨rfl, hc m⟩
end
end
theorem Pure.neAgg {P : Program} {f : Fr} {x y : Operand} {t ty : TypeId} {xs ys : Array Value} {r : Bool} (hx : evo f x = some (.agg xs)) (hy : evo f y = some (.agg ys)) (hm : P.eqGuardType P.depth t = false)
  (h : ∀ w, (binOp .neq t (.agg xs) (.agg ys)).run P w = .ok (.bool r) w) : Pure P (.binOp .neq t x y ty) f (.bool r) := fun ρ hρ d ty' pos aft g w => by
 simp [execOp, hρ _ _ hx, hρ _ _ hy, run_eqGuard_agg w .neq t x y xs ys hm, h]
/-- a test whose outcome is known otherwise -/
theorem Pure.bis {P : Program} {op : Op} {f : Fr} {s : Bool} (t : Bool) (h : Pure P op f (.bool s)) (e : s = t) : Pure P op f (.bool t) := e ▸ h
/-- a number spelled otherwise -/
theorem Pure.iis {P : Program} {op : Op} {f : Fr} {k : IntKind} {s : Int} (t : Int) (h : Pure P op f (.int k s)) (e : s = t) : Pure P op f (.int k t) := e ▸ h
/-- a string spelled otherwise -/
theorem Pure.sis {P : Program} {op : Op} {f : Fr} {s : List UInt8} (t : List UInt8) (h : Pure P op f (.string (bs s))) (e : s = t) : Pure P op f (.string (bs t)) := e ▸ h
/-- all of one cell -/
def ones : List Value → Bool
 | [] => true
 | v :: r => v.oneCell' && ones r
theorem ones_mem : ∀ {l : List Value}, ones l = true → ∀ v ∈ l, v.oneCell' = true
 | [], _, v, hv => by cases hv
 | u :: r, h, v, hv => by
  simp only [ones, Bool.and_eq_true] at h
  rcases List.mem_cons.1 hv with rfl | hv
  ·
   exact h.1
  ·
   exact ones_mem h.2 v hv
/-- parts put into a struct's cells, a cell each -/
def put1 : List Value → List (Nat × Value) → List Value
 | z, [] => z
 | z, (i, v) :: r => put1 (z.set i v) r
theorem pR {p : Prop} (h : p := by simp only [put1, List.map, List.zip, List.zipWith, List.set, List.replicate] <;> rfl) : p := h
theorem pS {p : Prop} (h : p := by simp only [put1, List.map, List.zip, List.zipWith, List.set] <;> rfl) : p := h
theorem pZ {p : Prop} (h : p := by simp only [put1, List.map, List.zip, List.zipWith] <;> rfl) : p := h
/-- the i-th field is the i-th cell, for the first n -/
def idPlaces : Nat → Nat → List (Nat × Nat) → Bool
 | _, 0, l => l.isEmpty
 | k, n + 1, p :: l => Nat.beq p.1 k && Nat.beq p.2 1 && idPlaces (k + 1) n l
 | _, _ + 1, [] => false
theorem idPlaces_at : ∀ (n k : Nat) (l : List (Nat × Nat)), idPlaces k n l = true → ∀ i, i < n → l[i]? = some (k + i, 1)
 | 0, _, _, _, _, hi => by omega
 | n + 1, k, [], h, _, _ => by cases h
 | n + 1, k, p :: l, h, i, hi => by
  simp only [idPlaces, Bool.and_eq_true] at h
  obtain ⟨⟨h1, h2⟩, h3⟩ := h
  cases i with
  | zero =>
   have e1 := Nat.eq_of_beq_eq_true h1
   have e2 := Nat.eq_of_beq_eq_true h2
   simp; exact Prod.ext e1 e2
  | succ i =>
   have := idPlaces_at n (k + 1) l h3 i oO
   rw [List.getElem?_cons_succ, this]
   congr 2; omega
theorem oneCells {v : Value} (h : v.oneCell' = true) : v.cells = #[v] := by cases v <;> first | rfl | cases h
def idxOk (n : Nat) : List (Nat × Value) → Bool
 | [] => true
 | (i, v) :: r => Nat.blt i n && v.oneCell' && idxOk n r
theorem fill_put1 {pl : List (Nat × Nat)} {n : Nat} (hp : idPlaces 0 n pl = true) : ∀ (parts : List (Nat × Value)) (z : List Value), z.length = n → idxOk n parts = true → Instr.fill (pl.toArray[·]?) z.toArray parts = some (put1 z parts).toArray
 | [], z, _, _ => rfl
 | (i, v) :: r, z, hz, ho => by
  simp only [idxOk, Bool.and_eq_true] at ho
  obtain ⟨⟨h1, h2⟩, h3⟩ := ho
  have hi : i < n := by simpa [Nat.blt_eq] using h1
  have hpl := idPlaces_at n 0 pl hp i hi
  have hc := oneCells h2
  have ih := fill_put1 hp r (z.set i v) (by simpa using hz) h3
  simp only [Nat.zero_add] at hpl
  have hpl' : pl.toArray[i]? = some (i, 1) := by simpa using hpl
  have hf : (#[v].zipIdx.foldl (fun cs (x : Value × Nat) => cs.setIfInBounds (i + x.2) x.1) z.toArray) = (z.set i v).toArray := by simp [Array.zipIdx]
  refine Eq.trans ?_ ih
  conv => lhs; unfold Instr.fill
  simp only [hpl', hc]
  rw [if_neg (by simp; omega)]
  exact congrArg (fun c => Instr.fill (pl.toArray[·]?) c r) hf
theorem Pure.buildL {P : Program} {f : Fr} {t : TypeId} {ps : List (Nat × Operand)} {vs zl l : List Value} {pl : List (Nat × Nat)} (hb : P.built t = fun parts => Instr.fill (pl.toArray[·]?) zl.toArray parts) (hp : idPlaces 0 zl.length pl = true)
  (hx : evs f (ps.map (·.2)) = some vs) (ho : idxOk zl.length ((ps.map (·.1)).zip vs) = true) (hl : put1 zl ((ps.map (·.1)).zip vs) = l) : Pure P (.build t ps.toArray) f (.agg l.toArray) :=
 Pure.build hx (by rw [hb, ← hl]; exact fill_put1 hp _ _ rfl ho)
theorem WL.stL {P : Program} {n : Sh} {f : Fr} {ops : Array Oper} {Q : Exit → Fr → World → Prop} {w : World} {rest : List Oper} {ty : Nat} {pos : String} {aft : Array Edge} {t tb : TypeId} {x y : Operand} {b : Nat} {old l : List Value} (hx : evo f x = some (.pointer (some ⟨b, 0, none⟩))) (hy : evo f y = some (.agg l.toArray)) (hb : Blk w b old.toArray tb)
  (hi : (P.info? t).map (·.size) = some l.length) (ho : old.length = l.length) (h1 : ones l = true)
  (k : ∀ w1, Blk w1 b l.toArray tb → Upd b w w1 → w1.heap.size = w.heap.size → WL P n ops Q rest f w1) :
  WL P n ops Q (⟨none, .store t x y, ty, pos, aft, none⟩ :: rest) f w :=
 WL.stA hx hy hb (by simpa using hi) (by simpa using ho) (by simpa using ones_mem h1) k
theorem ldRow {P : Program} {w : World} {b : Nat} {cs : Array Value} {t tb : TypeId} {dd : TypeDesc} (hb : Blk w b cs tb) (hu : P.underlying t = some dd)
  (hd : (match dd with | .struct _ | .array _ _ => true | _ => false) = true) (hi : (P.info? t).map (·.size) = some cs.size) : (loadVar t ⟨b, 0, none⟩).run P w = .ok (.agg cs) w := run_loadVar_row w b tb t cs (0, 0) dd hb hu hd hi
theorem pn_post {P : Program} {fn : Func} {R : Ending → World → Prop} {c : List PanicEntry} {f g : Fr} {w : World} (h : Post P fn R (.panic c) f w) : Post P fn R (.panic c) g w := h
theorem upon_post {P : Program} {o : Oper} {a : Act} {w : World} {K : Act → World → Prop} {Q Q' : Exit → Act → World → Prop} (h : o.wp P a w K Q) (hq : ∀ e a w, e ≠ .normal → Q e a w → Q' e a w) : o.wp P a w K Q' := by
 unfold Oper.wp at *
 generalize (execOp a.eval o).run P w = r at *
 cases r with
 | ok m w' =>
  cases m <;> simp only [Oper.upon] at h ⊢ <;>
   first
    | exact h
    | exact Calls.mono h (fun e w'' he => by
      cases e with
      | returned v => exact he
      | panicked c => exact hq _ _ _ (by simp) he
      | outgrown => obtain ⟨a', w3, h3⟩ := he; exact ⟨a', w3, hq _ _ _ (by simp) h3⟩)
 | halt x w' => cases x <;> simp only [Oper.upon] at h ⊢ <;> first | exact h | exact hq _ _ _ (by simp) h
def WY (P : Program) (n : Sh) (ops : Array Oper) (Q : Exit → Fr → World → Prop) (fuel : Nat) (listed : Array Bool) (f : Fr) (w : World) : Prop := ∀ a, Rep n f a → wpAny P .any ops (lift n Q) fuel listed a w
section
variable {P : Program} {n : Sh} {f : Fr} {ops : Array Oper} {Q : Exit → Fr → World → Prop} {w : World} {fuel : Nat} {listed : Array Bool}
theorem W.regY {id : Nat} {l : List Oper} (N : Nat) (hN : l.length = N) (hm : P.follows .mixedOrders = true) (h : ∀ w1, Drew w w1 → WY P n l.toArray Q N (Array.replicate N false) f w1) : W P n (.region id l.toArray true) Q f w :=
 fun a ha => wp_region_any hm (by
  subst hN
  have := h (w.drewN 1) ⟨1, rfl⟩ a ha
  rw [show l.toArray.size = l.length by simp]
  exact this)
theorem WY.take (i : Nat) {d ty : Nat} {pos : String} {aft : Array Edge} {op : Op} {v : Value} (hi : ops[i]? = some ⟨some d, op, ty, pos, aft, none⟩) (hs : Region.noSelect ops = true) (hf : Region.free .any ops listed i = true)
  (hr : (Region.ready .any ops listed).contains i = true) (hQ : ∀ c f w, Q (.panic c) f w → Q (.panic c) [] w) (hp : Pure P op f v) (hd : Nat.blt d n.n = true)
  (k : WY P n ops Q fuel (listed.setIfInBounds i true) ((d, v) :: f) w) : WY P n ops Q (fuel + 1) listed f w := by
 intro a ha
 refine wpAny_take hi hs hf hr ?_ (.inl ⟨by simp [Region.wanted], fun w => hp _ ha.agr _ _ _ _ _ w⟩) (k _ (ha.put hd v))
 rintro c b w' ⟨g, hg, hq⟩
 have hg1 := hg.1
 have hg2 := hg.2.1
 refine ⟨[], ⟨?_, ?_, fun i u hu => by cases hu⟩, hQ c g w' hq⟩
 ·
  exact hg1
 ·
  simpa [Act.put] using hg2
def BrAll (P : Program) (n : Sh) (ops : Array Oper) (Q : Exit → Fr → World → Prop) (fuel : Nat) (listed : Array Bool) (f : Fr) (w : World) : List Nat → Prop
 | [] => True
 | i :: r => (∃ o, ops[i]? = some o ∧ WL P n ops (nx (fun f' w' => WY P n ops Q fuel (listed.setIfInBounds i true) f' w') Q) [o] f w) ∧ BrAll P n ops Q fuel listed f w r
theorem BrAll.mem : ∀ {rs : List Nat}, BrAll P n ops Q fuel listed f w rs → ∀ i ∈ rs, ∃ o, ops[i]? = some o ∧ WL P n ops (nx (fun f' w' => WY P n ops Q fuel (listed.setIfInBounds i true) f' w') Q) [o] f w
 | [], _, _, h => by cases h
 | j :: r, h, i, hi => by
  rcases List.mem_cons.1 hi with rfl | hi
  ·
   exact h.1
  ·
   exact BrAll.mem h.2 i hi
theorem WY.br (rs : List Nat) (hr : Region.ready .any ops listed = rs) (hne : rs.isEmpty = false) (h : BrAll P n ops Q fuel listed f w rs) : WY P n ops Q (fuel + 1) listed f w := by
 intro a ha
 refine wpAny_all hr (by cases rs with | nil => cases hne | cons _ _ => simp) fun i hi => ?_
 obtain ⟨o, ho, hw⟩ := h.mem i hi
 have := hw a ha
 unfold wpOp
 simp only [ho]
 have conv : ∀ (e : Exit) (a : Act) (w : World), lift n (nx (fun f' w' => WY P n ops Q fuel (listed.setIfInBounds i true) f' w') Q) e a w → Exit.then (wpAny P .any ops (lift n Q) fuel (listed.setIfInBounds i true)) (lift n Q) e a w := by
  rintro e a w ⟨g, hg, hq⟩
  cases e with
  | normal => exact hq a hg
  | _ => exact ⟨g, hg, hq⟩
 unfold wpList at this
 split
 ·
  next hwt =>
  rw [if_pos hwt] at this
  refine this.imp (fun h => ?_) fun ⟨h1, a', w', h2⟩ => ⟨h1, a', w', conv _ _ _ h2⟩
  have h' : o.wp P a w (wpAny P .any ops (lift n Q) fuel (listed.setIfInBounds i true)) (lift n (nx (fun f' w' => WY P n ops Q fuel (listed.setIfInBounds i true) f' w') Q)) :=
   Oper.wp_mono (fun a w h => conv .normal a w h) h
  exact upon_post h' fun e a w he h => by
   cases e with
   | normal => exact absurd rfl he
   | _ => exact conv _ a w h
 ·
  next hwt =>
  rw [if_neg hwt] at this
  exact conv .normal _ _ this
/-- the same, what is closed being reckoned at the place of use -/
theorem WY.tk (i : Nat) {d ty : Nat} {pos : String} {aft : Array Edge} {op : Op} {v : Value} (hi : ops[i]? = some ⟨some d, op, ty, pos, aft, none⟩) (hp : Pure P op f v) (hd : Nat.blt d n.n = true)
  (k : WY P n ops Q fuel (listed.setIfInBounds i true) ((d, v) :: f) w) (hs : Region.noSelect ops = true := by kernel_rfl) (hf : Region.free .any ops listed i = true := by kernel_rfl)
  (hr : (Region.ready .any ops listed).contains i = true := by kernel_rfl) (hQ : ∀ c f w, Q (.panic c) f w → Q (.panic c) [] w := by first | exact fun c f w h => pn_post h | exact fun c f w h => h) : WY P n ops Q (fuel + 1) listed f w :=
 WY.take i hi hs hf hr hQ hp hd k
theorem WY.br1 (i : Nat) {o : Oper} (hi : ops[i]? = some o) (h : WL P n ops (nx (fun f' w' => WY P n ops Q fuel (listed.setIfInBounds i true) f' w') Q) [o] f w) (hr : Region.ready .any ops listed = [i] := by kernel_rfl) : WY P n ops Q (fuel + 1) listed f w :=
 WY.br [i] hr rfl ⟨⟨_, hi, h⟩, trivial⟩
theorem WY.br2 (i : Nat) {o : Oper} (hi : ops[i]? = some o) (j : Nat) {o2 : Oper} (hj : ops[j]? = some o2) (h : WL P n ops (nx (fun f' w' => WY P n ops Q fuel (listed.setIfInBounds i true) f' w') Q) [o] f w)
  (h2 : WL P n ops (nx (fun f' w' => WY P n ops Q fuel (listed.setIfInBounds j true) f' w') Q) [o2] f w) (hr : Region.ready .any ops listed = [i, j] := by kernel_rfl) : WY P n ops Q (fuel + 1) listed f w :=
 WY.br [i, j] hr rfl ⟨⟨_, hi, h⟩, ⟨_, hj, h2⟩, trivial⟩
theorem WY.done (hr : Region.ready .any ops listed = []) (h : Q .normal f w) : WY P n ops Q fuel listed f w := fun _ ha => wpAny_done hr ⟨f, ha, h⟩ fuel
end
attribute [irreducible] Post W WL WQ WS WY
end
section
section
variable {P : Program} {n : Sh} {f : Fr}
/-- where a slice's cells are; whatever, if it is nil -/
def pA (p : Option Addr) : Addr := p.getD ⟨0, 0, none⟩
/-- a slice of this base reads as these bytes -/
structure BytesAt (w : World) (p : Option Addr) (l : List UInt8) : Prop where
 isp : 0 < l.length → p = some (pA p)
 cells : ∀ j (h : j < l.length), w.cell? ((pA p).add j) = some (.int .u8 (l[j].toNat : Int))
theorem BytesAt.nil (w : World) : BytesAt w none [] := ⟨fun h => by simp at h, fun j h => by simp at h⟩
theorem add_zero_addr (a : Addr) : a.add 0 = a := by unfold Addr.add; split <;> simp_all
theorem add_block (a : Addr) (k : Nat) : (a.add k).block = a.block := by unfold Addr.add; split <;> simp_all
theorem add_add (a : Addr) (j k : Nat) : (a.add j).add k = a.add (j + k) := by
 unfold Addr.add
 split <;> simp_all <;> (try split) <;> simp_all <;> omega
theorem BytesAt.below {w w1 : World} {B : Nat} {p : Option Addr} {l : List UInt8} (h : BytesAt w p l) (hb : Below B w w1) (hp : 0 < l.length → (pA p).block < B) : BytesAt w1 p l :=
 ⟨h.isp, fun j hj => by rw [hb.cell (by rw [add_block]; exact hp oO)]; exact h.cells j hj⟩
theorem BytesAt.upd {w w1 : World} {b : Nat} {p : Option Addr} {l : List UInt8} (h : BytesAt w p l) (hu : Upd b w w1) (hp : 0 < l.length → (pA p).block ≠ b) : BytesAt w1 p l :=
 ⟨h.isp, fun j hj => by rw [World.cell?_of_block (w := w) (hu.other _ (by rw [add_block]; exact hp oO))]; exact h.cells j hj⟩
theorem bup {w w1 : World} {b : Nat} {p : Option Addr} {l : List UInt8} (h : BytesAt w p l) (hu : Upd b w w1) (hp : 0 < l.length → (pA p).block < b) : BytesAt w1 p l := BytesAt.upd h hu (fun h0 => Nat.ne_of_lt (hp h0))
theorem BytesAt.drewN {w : World} {p : Option Addr} {l : List UInt8} (h : BytesAt w p l) (m : Nat) : BytesAt (w.drewN m) p l := ⟨h.isp, h.cells⟩
theorem BytesAt.lt {w : World} {p : Option Addr} {l : List UInt8} (h : BytesAt w p l) (hl : 0 < l.length) : (pA p).block < w.heap.size := by
 have := h.cells 0 hl
 unfold World.cell? at this
 rw [add_block] at this
 cases hb : w.heap[(pA p).block]? with
 | none => rw [hb] at this; cases this
 | some o => exact (Array.getElem?_eq_some_iff.1 hb).1
/-- the address of a byte -/
theorem Pure.ixb {tx e : TypeId} {x y : Operand} {p : Option Addr} {l c : Nat} {i : Int} {k : IntKind} (hu : P.underlying tx = some (.slice e)) (hs : ∀ w, (sizeOf e).run P w = .ok 1 w) (hx : evo f x = some (.slice p l c))
  (hi : evo f y = some (.int k i)) (hp : p = some (pA p)) (j : Nat) (e' : i = j) (hj : j < l) : Pure P (.indexAddr tx x y) f (.pointer (some ((pA p).add j))) := by
 have h := Pure.ixa (P := P) (f := f) (p := pA p) (c := c) hu hs (hx.trans (by rw [← hp])) hi j e' hj
 rwa [Nat.mul_one] at h
theorem BytesAt.one {w : World} {b : Nat} {x : Int} {t : TypeId} {c : UInt8} (h : Blk w b #[.int .u8 x] t) (e : x = (c.toNat : Int)) : BytesAt w (some ⟨b, 0, none⟩) [c] :=
 ⟨fun _ => rfl, fun j hj => by
  obtain rfl : j = 0 := by simp at hj; omega
  show w.cell? ((⟨b, 0, none⟩ : Addr).add 0) = _
  rw [add_zero_addr, h.cell 0, e]; rfl⟩
/-- a slice made of its parts, a cell each -/
theorem fill_seq {n : Nat} : ∀ (parts : List (Nat × Value)) (z : List Value), z.length = n → idxOk n parts = true → Instr.fill (fun i => some (i * 1, 1)) z.toArray parts = some (put1 z parts).toArray
 | [], z, _, _ => rfl
 | (i, v) :: r, z, hz, ho => by
  simp only [idxOk, Bool.and_eq_true] at ho
  obtain ⟨⟨h1, h2⟩, h3⟩ := ho
  have hi : i < n := by simpa [Nat.blt_eq] using h1
  have hc := oneCells h2
  have ih := fill_seq r (z.set i v) (by simpa using hz) h3
  have hf : (#[v].zipIdx.foldl (fun cs (x : Value × Nat) => cs.setIfInBounds (i * 1 + x.2) x.1) z.toArray) = (z.set i v).toArray := by simp [Array.zipIdx]
  refine Eq.trans ?_ ih
  conv => lhs; unfold Instr.fill
  simp only [hc]
  rw [if_neg (by simp; omega)]
  exact congrArg (fun c => Instr.fill (fun i => some (i * 1, 1)) c r) hf
theorem WL.bsl {ops : Array Oper} {Q : Exit → Fr → World → Prop} {w : World} {rest : List Oper} {d ty : Nat} {pos : String} {aft : Array Edge} {t e : TypeId} {len : Nat} {ps : List (Nat × Operand)} {vs l : List Value} {z : Value}
  (hu : P.underlying t = some (.slice e)) (hs : ∀ w, (sizeOf e).run P w = .ok 1 w) (hz : ∀ w, (zeroValue e).run P w = .ok z w) (hz1 : z.oneCell' = true) (hl0 : Nat.blt 0 len = true) (hl1 : Nat.ble len 1000 = true)
  (hx : evs f (ps.map (·.2)) = some vs) (ho : idxOk len ((ps.map (·.1)).zip vs) = true) (hl : put1 (List.replicate len z) ((ps.map (·.1)).zip vs) = l) (hd : Nat.blt d n.n = true)
  (k : ∀ b w1, b = w.heap.size → Blk w1 b l.toArray e → Upd b w w1 → w1.heap.size = b + 1 → WL P n ops Q rest ((d, .slice (some ⟨b, 0, none⟩) len len) :: f) w1) :
  WL P n ops Q (⟨some d, .buildSlice t len ps.toArray, ty, pos, aft, none⟩ :: rest) f w := by
 have h0 : 0 < len := by simpa [Nat.blt_eq] using hl0
 have h1 : len ≤ 1000 := by simpa using hl1
 refine WL.run hd (w' := w.alloc (.cells l.toArray e)) (v := .slice (some ⟨w.heap.size, 0, none⟩) len len) (fun ρ hρ => ?_) (k _ _ rfl (Blk.alloc _ _ _) (Upd.alloc _ _) (by simp))
 have e1 := evs_map hρ _ _ hx
 have e2 : (ps.toArray.map fun (i, x) => (i, ρ x)).toList = (ps.map (·.1)).zip vs := by
  rw [← e1]
  simp only [List.map_map, Array.toList_map]
  clear hx ho hl e1
  induction ps with
  | nil => rfl
  | cons p r ih => simpa using ih
 have hzc := oneCells hz1
 have hcells : (Array.range (len * 1)).map (fun x => (#[z] : Array Value)[x % (#[z] : Array Value).size]!) = (List.replicate len z).toArray := by
  apply Array.ext
  ·
   simp
  ·
   intro i h1 h2; simp [Nat.mod_one]
 have hfill := fill_seq (n := len) ((ps.map (·.1)).zip vs) (List.replicate len z) (by simp) ho
 rw [hl] at hfill
 have hfill' : Instr.fill (fun i => some (i, 1)) (List.replicate len z).toArray ((ps.map (·.1)).zip vs) = some l.toArray := by simpa using hfill
 have hcells' : (Array.range len).map (fun x => (#[z] : Array Value)[x % (#[z] : Array Value).size]!) = (List.replicate len z).toArray := by simpa using hcells
 have hne : len ≠ 0 := by omega
 have hbig : ¬ 16777216 < len := by omega
 unfold execOp
 simp only [Instr.buildSlice, Sem.run_bind, run_underlying hu, hs, Result.andThen_ok, e2, Nat.mul_one]
 rw [if_neg oO, if_neg hne]
 simp only [Sem.run_bind, hz, hzc, Sem.run_pure, Result.andThen_ok, hcells', hfill']
 simp [newRow]
end
end
section
/-- below block B nothing has turned but block r -/
structure Touch (B r : Nat) (w w1 : World) : Prop where
 os : w1.os = w.os
 tape : w1.tape = w.tape
 output : w1.output = w.output
 size : w.heap.size ≤ w1.heap.size
 block : ∀ k, k < B → k ≠ r → w1.heap[k]? = w.heap[k]?
theorem Touch.refl (B r : Nat) (w : World) : Touch B r w w := ⟨rfl, rfl, rfl, Nat.le_refl _, fun _ _ _ => rfl⟩
theorem Touch.trans {B r : Nat} {a b c : World} (h : Touch B r a b) (k : Touch B r b c) : Touch B r a c :=
 ⟨k.os.trans h.os, k.tape.trans h.tape, k.output.trans h.output, Nat.le_trans h.size k.size, fun i hi hr => (k.block i hi hr).trans (h.block i hi hr)⟩
theorem Touch.mono {B B' r : Nat} {a b : World} (h : Touch B r a b) (hB : B' ≤ B) : Touch B' r a b := ⟨h.os, h.tape, h.output, h.size, fun i hi hr => h.block i oO hr⟩
theorem Touch.of_below {B r : Nat} {a b : World} (h : Below B a b) : Touch B r a b := ⟨h.os, h.tape, h.output, h.size, fun i hi _ => h.block i hi⟩
theorem Touch.of_upd {B r : Nat} {a b : World} (h : Upd r a b) : Touch B r a b := ⟨h.os, h.tape, h.output, h.size, fun i _ hr => h.other i hr⟩
theorem Touch.of_new {B r c : Nat} {a b : World} (h : Upd c a b) (hc : B ≤ c) : Touch B r a b := ⟨h.os, h.tape, h.output, h.size, fun i hi _ => h.other i oO⟩
/-- .. where block r is new itself -/
theorem Touch.below {B B' r : Nat} {a b : World} (h : Touch B' r a b) (hB : B ≤ B') (hr : B ≤ r) : Below B a b := ⟨h.os, h.tape, h.output, h.size, fun i hi => h.block i oO oO⟩
theorem Blk.touch {B r c : Nat} {w w1 : World} {cs : Array Value} {t : TypeId} (h : Blk w c cs t) (hT : Touch B r w w1) (hc : c < B) (hr : c ≠ r) : Blk w1 c cs t := (hT.block c hc hr).trans h
theorem BytesAt.touch {B r : Nat} {w w1 : World} {p : Option Addr} {l : List UInt8} (h : BytesAt w p l) (hT : Touch B r w w1) (hp : 0 < l.length → (pA p).block < B ∧ (pA p).block ≠ r) : BytesAt w1 p l :=
 ⟨h.isp, fun j hj => by
  obtain ⟨h1, h2⟩ := hp oO
  rw [World.cell?_of_block (w := w) (hT.block _ (by rw [add_block]; exact h1) (by rw [add_block]; exact h2))]; exact h.cells j hj⟩
theorem BytesAt.drew {w w1 : World} {p : Option Addr} {l : List UInt8} (h : BytesAt w p l) (d : Drew w w1) : BytesAt w1 p l := by obtain ⟨m, rfl⟩ := d; exact h.drewN m
section
variable {P : Program} {n : Sh} {f : Fr}
/-- a slice of the call's own, one cell an element, from block B on -/
def Own (e : TypeId) (B : Nat) (w : World) (v : Value) (xs : List Value) : Prop := w.ownsRow B e 1 v xs.length xs
theorem Own.nil (e : TypeId) (B : Nat) (w : World) : Own e B w (.slice none 0 0) [] := World.ownsRow_nil w B e 1
theorem Own.slice {e : TypeId} {B : Nat} {w : World} {v : Value} {xs : List Value} (h : Own e B w v xs) : ∃ p c, v = .slice p xs.length c := by
 obtain ⟨hl, h⟩ := h
 rcases h with ⟨rfl, h0⟩ | ⟨g, cap, cur, rfl, -⟩
 ·
  exact ⟨none, 0, by rw [h0]⟩
 ·
  exact ⟨_, cap, rfl⟩
theorem Own.touch {e : TypeId} {B r : Nat} {w w1 : World} {v : Value} {xs : List Value} (h : Own e B w v xs) (hu : Upd r w w1) (hr : r < B) : Own e B w1 v xs := by
 obtain ⟨hl, h⟩ := h
 refine ⟨hl, h.imp id fun ⟨g, cap, cur, h1, h2, h3, h4⟩ => ⟨g, cap, cur, h1, h2, (hu.other g oO).trans h3, h4⟩⟩
theorem Own.new {e : TypeId} {B b : Nat} {w w1 : World} {v : Value} {xs : List Value} (h : Own e B w v xs) (eb : b = w.heap.size) (hu : Upd b w w1) : Own e B w1 v xs := by
 obtain ⟨hl, h⟩ := h
 refine ⟨hl, h.imp id fun ⟨g, cap, cur, h1, h2, h3, h4⟩ => ⟨g, cap, cur, h1, h2, (hu.other g (by have := (Array.getElem?_eq_some_iff.1 h3).1; omega)).trans h3, h4⟩⟩
theorem Own.below {e : TypeId} {B : Nat} {w w1 : World} {v : Value} {xs : List Value} (h : Own e B w v xs) (hb : Below w.heap.size w w1) : Own e B w1 v xs := by
 obtain ⟨hl, h⟩ := h
 refine ⟨hl, h.imp id fun ⟨g, cap, cur, h1, h2, h3, h4⟩ => ⟨g, cap, cur, h1, h2, (hb.block g (Array.getElem?_eq_some_iff.1 h3).1).trans h3, h4⟩⟩
theorem Own.touch' {e : TypeId} {B r : Nat} {w w1 : World} {v : Value} {xs : List Value} (h : Own e B w v xs) (hT : Touch w.heap.size r w w1) (hr : r < B) : Own e B w1 v xs := by
 obtain ⟨hl, h⟩ := h
 refine ⟨hl, h.imp id fun ⟨g, cap, cur, h1, h2, h3, h4⟩ => ⟨g, cap, cur, h1, h2, (hT.block g (Array.getElem?_eq_some_iff.1 h3).1 oO).trans h3, h4⟩⟩
theorem Own.drew {e : TypeId} {B : Nat} {w w1 : World} {v : Value} {xs : List Value} (h : Own e B w v xs) (d : Drew w w1) : Own e B w1 v xs := by obtain ⟨m, rfl⟩ := d; exact h
/-- an own row of bytes reads as bytes -/
theorem Own.bytes {e : TypeId} {B : Nat} {w : World} {v : Value} {l : List UInt8} (h : Own e B w v (byteVals l)) : ∃ p c, v = .slice p l.length c ∧ BytesAt w p l ∧ (0 < l.length → B ≤ (pA p).block) := by
  have hbl : (byteVals l).length = l.length := by simp [byteVals]
  obtain ⟨hl, h⟩ := h
  rcases h with ⟨rfl, h0⟩ | ⟨g, cap, cur, rfl, hB, hg, hnc, hcm, hcs, htake⟩
  · obtain rfl : l = [] := by rw [hbl] at h0; exact List.length_eq_zero_iff.1 h0
    exact ⟨none, 0, rfl, BytesAt.nil w, fun h => by simp at h⟩
  · rw [hbl] at hnc htake ⊢
    refine ⟨_, cap, rfl, ⟨fun _ => rfl, fun j hj => ?_⟩, fun _ => hB⟩
    have e1 : (pA (some ⟨g, 0, none⟩)).add j = ⟨g, j, none⟩ := by
      show (⟨g, 0, none⟩ : Addr).add j = _
      unfold Addr.add; split
      · next h => subst h; rfl
      · simp
    have hc := Lib.cell_of_heap hg j
    rw [e1, hc, ← Array.getElem?_toList]
    have h2 : (cur.toList.take (l.length * 1))[j]? = (byteVals l)[j]? := by rw [htake]
    rw [List.getElem?_take, if_pos oO] at h2
    rw [h2]
    simp [byteVals, hj]
/-- one more element -/
theorem WL.app1 {ops : Array Oper} {Q : Exit → Fr → World → Prop} {w : World} {rest : List Oper} {d ty : Nat} {pos : String} {aft : Array Edge} {s x : Operand} {t e : TypeId} {B : Nat} {i : TypeInfo} {z v u : Value} {xs : List Value} {b c by' : Nat} {tb : TypeId}
    (ht : P.underlying t = some (.slice e)) (hi : P.info? e = some i) (hz : i.zero = some z) (hsize : i.size = 1) (hby : i.bytes = by') (hby2 : by' ≤ 16) (hzs : z.cells.size = 1)
    (hs : evo f s = some v) (hown : Own e B w v xs) (hx : evo f x = some (.slice (some ⟨b, 0, none⟩) 1 c)) (hb : Blk w b #[u] tb) (h1 : u.oneCell' = true)
    (hn : xs.length ≤ 1000000000) (hB : B ≤ w.heap.size) (hd : Nat.blt d n.n = true)
    (k : ∀ v' w', Own e B w' v' (xs ++ [u]) → Below B w w' → w.grownBy w' v.ownBlock → WL P n ops Q rest ((d, v') :: f) w') :
    WL P n ops Q (⟨some d, .call ⟨.builtin .append, #[s, x], #[t, t]⟩, ty, pos, aft, none⟩ :: rest) f w := by
  obtain ⟨v', w', h2, h3, h4, -⟩ := run_append_own (P := P) (w := w) B t ty e i z 1 by' ht hi hz hsize hby hzs dD v xs.length xs hown ⟨b, 0, none⟩ 1 c [u] rfl
    (fun j y hj => by
      have h0 : j = 0 := by
        rcases Nat.eq_zero_or_pos j with h | h
        · exact h
        · rw [List.getElem?_eq_none (by simp; omega)] at hj; cases hj
      subst h0
      simp only [List.getElem?_cons_zero, Option.some.injEq] at hj
      subst hj
      rw [add_zero_addr, hb.cell 0]; rfl) (by simpa using h1) (by unfold maxLen; omega) (by
      have : (xs.length + 1) * by' ≤ (xs.length + 1) * 16 := Nat.mul_le_mul_left _ hby2
      omega) hB
  refine WL.run hd (w' := w') (v := v') (fun ρ hρ => ?_) (k v' w' ?_ ((Below.refl _ _).grown h4 hB fun k hk => (hown.lt k hk).1) h4)
  · unfold execOp
    simp only [resolve, invoke, builtin, Sem.run_bind, Sem.run_pure, Result.andThen_ok, List.map_toArray, List.map_cons, List.map_nil, hρ _ _ hs, hρ _ _ hx, h2]
  · have e1 : (xs ++ [u]).length = xs.length + 1 := by simp
    unfold Own
    rw [e1]; exact h3
/-- an error's number as an interface's value -/
theorem Pure.mkI {tx : TypeId} {x : Operand} {k : IntKind} {v : Value} (hu : P.underlying tx = some (.int k)) (hx : evo f x = some v) : Pure P (.makeInterface tx x) f (.iface tx v) := fun ρ hρ d ty pos aft g w => by
 simp [execOp, hρ _ _ hx, Instr.makeInterface, run_underlying hu]
theorem WL.panic {ops : Array Oper} {Q : Exit → Fr → World → Prop} {w : World} {rest : List Oper} {d : Option Tmp} {ty : Nat} {pos : String} {aft : Array Edge} {x : Operand} {t : TypeId} {v : Value}
  (hx : evo f x = some (.iface t v)) (k : Q (.panic [{ v := .iface t v, recovered := false }]) f w) : WL P n ops Q (⟨d, .panic x, ty, pos, aft, none⟩ :: rest) f w :=
 WL.pn (fun ρ hρ => by simp [execOp, hρ _ _ hx, Instr.panic]) k
/-- what a call that may panic with an error's number comes to -/
def Ends {α : Type} (E : TypeId) (res : Except Int α) (V : α → Value) (S : α → World → Prop) (S' : World → Prop) (e : Ending) (w : World) : Prop :=
 match res with
 | .ok a => e = .returned (V a) ∧ S a w
 | .error k => e = .panicked [{ v := .iface E (.int .i64 k), recovered := false }] ∧ S' w
theorem Ends.ok {α : Type} {E : TypeId} {res : Except Int α} {V : α → Value} {S : α → World → Prop} {S' : World → Prop} {e : Ending} {w : World} (a : α) (h : res = .ok a) (he : e = .returned (V a)) (hs : S a w) : Ends E res V S S' e w := by
 unfold Ends; rw [h]; exact ⟨he, hs⟩
end
end
section
theorem W.norm {P : Program} {fn : Func} {R : Ending → World → Prop} {f : Fr} {w : World} (h : Post P fn R .ret f w) : Post P fn R .normal f w := by unfold Post at *; exact h
/-- one result, which lies in memory -/
theorem W.retc1 {P : Program} {fn : Func} {R : Ending → World → Prop} {f : Fr} {w : World} {t : Tmp} {ty : TypeId} {b : Addr} {v : Value} (hr : fn.results = #[.cell t ty])
  (ht : look f t = some (.pointer (some b))) (hv : (loadVar ty b).run P w = .ok v w) (h : R (.returned v) w) : Post P fn R .ret f w := by
 unfold Post
 exact ⟨_, fun tmps hh => by
  have e1 := hh _ _ ht
  simp only [Array.getD_eq_getD_getElem?] at e1
  simp [results, hr, e1, asAddr, hv], h⟩
section
variable {P : Program} {n : Sh} {f : Fr}
/-- where a part of a slice stands -/
def pPart (p : Option Addr) (c a : Nat) : Option Addr := if c = a then p else p.map (·.add a)
theorem Pure.slbF {tx e : TypeId} {x y : Operand} {p : Option Addr} {m c : Nat} {i : Int} (hu : P.underlying tx = some (.slice e)) (hs : ∀ w, (sizeOf e).run P w = .ok 1 w) (hx : evo f x = some (.slice p m c))
  (hi : evo f y = some (.int .i64 i)) (a : Nat) (ei : i = a) (ham : a ≤ m) :
  Pure P (.slice tx x (some y) none none) f (.slice (pPart p c a) (m - a) (c - a)) := fun ρ hρ d ty pos aft g w => by
 subst ei
 simp [execOp, Instr.sliceAt, Instr.slice, Instr.sliceBounds, run_sliceBound, hρ _ _ hx, hρ _ _ hi, run_underlying hu, hs, ham, pPart]
theorem Pure.slbT {tx e : TypeId} {x z : Operand} {p : Option Addr} {m c : Nat} {j : Int} (hu : P.underlying tx = some (.slice e)) (hs : ∀ w, (sizeOf e).run P w = .ok 1 w) (hx : evo f x = some (.slice p m c))
  (hj : evo f z = some (.int .i64 j)) (b : Nat) (ej : j = b) (hbc : b ≤ c) :
  Pure P (.slice tx x none (some z) none) f (.slice (pPart p c 0) b c) := fun ρ hρ d ty pos aft g w => by
 subst ej
 simp [execOp, Instr.sliceAt, Instr.slice, Instr.sliceBounds, run_sliceBound, hρ _ _ hx, hρ _ _ hj, run_underlying hu, hs, hbc, pPart]
theorem BytesAt.part {w : World} {p : Option Addr} {l : List UInt8} {c a b : Nat} (h : BytesAt w p l) (hab : a ≤ b) (hb : b ≤ l.length) (hc : l.length ≤ c) : BytesAt w (pPart p c a) ((l.drop a).take (b - a)) := by
  have hlen : ((l.drop a).take (b - a)).length = b - a := by rw [List.length_take, List.length_drop]; omega
  by_cases h0 : a = b
  · refine ⟨fun h => ?_, fun j hj => ?_⟩ <;> rw [hlen] at * <;> omega
  · have hp := h.isp oO
    have e1 : pPart p c a = some ((pA p).add a) := by unfold pPart; rw [if_neg oO]; rw [hp]; rfl
    rw [e1]
    refine ⟨fun _ => rfl, fun j hj => ?_⟩
    rw [hlen] at hj
    show w.cell? (((pA p).add a).add j) = _
    rw [add_add, h.cells (a + j) oO]
    simp
theorem Rd.iis {op : Op} {w : World} {k : IntKind} {s : Int} (t : Int) (h : Rd P op f w (.int k s)) (e : s = t) : Rd P op f w (.int k t) := e ▸ h
/-- one more element, from one fact of the type -/
theorem WL.appm {ops : Array Oper} {Q : Exit → Fr → World → Prop} {w : World} {rest : List Oper} {d ty : Nat} {pos : String} {aft : Array Edge} {s x : Operand} {t e : TypeId} {B : Nat} {z v u : Value} {xs : List Value} {b c by' : Nat} {tb : TypeId}
  (ht : P.underlying t = some (.slice e)) (hi : (P.info? e).map (fun i => (i.zero, i.size, i.bytes)) = some (some z, 1, by')) (hby2 : Nat.ble by' 16 = true) (hzs : z.cells.size = 1)
  (hs : evo f s = some v) (hown : Own e B w v xs) (hx : evo f x = some (.slice (some ⟨b, 0, none⟩) 1 c)) (hb : Blk w b #[u] tb) (h1 : u.oneCell' = true)
  (hn : xs.length ≤ 1000000000) (hB : B ≤ w.heap.size) (hd : Nat.blt d n.n = true)
  (k : ∀ v' w', Own e B w' v' (xs ++ [u]) → Below B w w' → w.grownBy w' v.ownBlock → WL P n ops Q rest ((d, v') :: f) w') :
  WL P n ops Q (⟨some d, .call ⟨.builtin .append, #[s, x], #[t, t]⟩, ty, pos, aft, none⟩ :: rest) f w := by
 cases hh : P.info? e with
 | none => rw [hh] at hi; cases hi
 | some i =>
  rw [hh] at hi
  simp only [Option.map_some, Option.some.injEq, Prod.mk.injEq] at hi
  exact WL.app1 ht hh hi.1 hi.2.1 hi.2.2 (by simpa using hby2) hzs hs hown hx hb h1 hn hB hd k
theorem byteVals_len (l : List UInt8) : (byteVals l).length = l.length := by simp [byteVals]
theorem Own.snoc {e : TypeId} {B : Nat} {w : World} {v : Value} {l : List UInt8} {x : Int} (h : Own e B w v (byteVals l ++ [.int .u8 x])) (c : UInt8) (hc : x = (c.toNat : Int)) : Own e B w v (byteVals (l ++ [c])) := by
 have : byteVals (l ++ [c]) = byteVals l ++ [.int .u8 x] := by simp [byteVals, hc]
 rw [this]; exact h
end
end
section
open Go.RowKit Go.WideShapes Go.ChangeShapes
section
variable {P : Program} {n : Sh} {f : Fr}
/-- an empty slice -/
theorem WL.bsl0 {ops : Array Oper} {Q : Exit → Fr → World → Prop} {w : World} {rest : List Oper} {d ty : Nat} {pos : String} {aft : Array Edge} {t e : TypeId} {sz : Nat}
  (hu : P.underlying t = some (.slice e)) (hs : ∀ w, (sizeOf e).run P w = .ok sz w) (hd : Nat.blt d n.n = true)
  (k : ∀ b w1, b = w.heap.size → (∀ B, B ≤ b → w1.ownsRow B e sz (.slice (some ⟨b, 0, none⟩) 0 0) 0 []) → Upd b w w1 → w1.heap.size = b + 1 → WL P n ops Q rest ((d, .slice (some ⟨b, 0, none⟩) 0 0) :: f) w1) :
  WL P n ops Q (⟨some d, .buildSlice t 0 [].toArray, ty, pos, aft, none⟩ :: rest) f w := by
 refine WL.run hd (w' := w.alloc (.cells #[] e)) (v := .slice (some ⟨w.heap.size, 0, none⟩) 0 0) (fun ρ hρ => ?_)
  (k _ _ rfl (fun B hB => ⟨by simp, .inr ⟨w.heap.size, 0, #[], rfl, hB, Blk.alloc _ _ _, Nat.le_refl _, by unfold maxLen; omega, by simp, by simp⟩⟩) (Upd.alloc _ _) (by simp))
 unfold execOp
 have h0 : Array.map (fun _ => (default : Value)) (Array.range 0) = #[] := by simp
 simp [Instr.buildSlice, run_underlying hu, hs, Instr.fill, h0, newRow]
/-- an own row of bytes reads as bytes; its room -/
theorem Own.bytesC {e : TypeId} {B : Nat} {w : World} {v : Value} {l : List UInt8} (h : Own e B w v (byteVals l)) : ∃ p c, v = .slice p l.length c ∧ BytesAt w p l ∧ (0 < l.length → B ≤ (pA p).block) ∧ l.length ≤ c ∧ (l = [] → c = 0 ∨ p ≠ none) := by
 obtain ⟨p, c, hv, hb, hB⟩ := h.bytes
 have hbl : (byteVals l).length = l.length := by simp [byteVals]
 obtain ⟨hl, h⟩ := h
 rcases h with ⟨rfl, h0⟩ | ⟨g, cap, cur, rfl, -, -, hnc, -⟩
 ·
  simp only [Value.slice.injEq] at hv
  obtain ⟨rfl, h1, rfl⟩ := hv
  exact ⟨none, 0, by rw [← h1], hb, hB, by omega, fun _ => .inl rfl⟩
 ·
  simp only [Value.slice.injEq] at hv
  obtain ⟨rfl, h1, rfl⟩ := hv
  exact ⟨_, _, by rw [h1], hb, hB, by omega, fun _ => .inr (by simp)⟩
end
theorem Drew.le {w w1 : World} {B : Nat} (h : B ≤ w.heap.size) (d : Drew w w1) : B ≤ w1.heap.size := by rw [d.size]; exact h
/-- a block of bytes, written out -/
theorem BytesAt.lit {w : World} {b : Nat} {cs : Array Value} {t : TypeId} {l : List UInt8} (h : Blk w b cs t) (e : cs = (byteVals l).toArray) : BytesAt w (some ⟨b, 0, none⟩) l := by
 subst e
 refine ⟨fun _ => rfl, fun j hj => ?_⟩
 have e1 : (pA (some ⟨b, 0, none⟩)).add j = ⟨b, j, none⟩ := by
  show (⟨b, 0, none⟩ : Addr).add j = _
  unfold Addr.add; split
  ·
   next h => subst h; rfl
  ·
   simp
 rw [e1, h.cell j]
 simp [byteVals, hj]
/-- a reading of an argument stands behind a call that only lays new blocks -/
theorem trod_keep {H : Type} {enc : TypeId × Value → H} {P : Program} {t : TypeId} (hl : laidOutB P = true) (hr : P.readableRec t = true) (hrow : decide (t < P.types.size) = true) {W W' : World} {v : Value} {d : DataW H} {ps : List MemPlace}
  (h : DataW.Trod enc P W 0 (fun _ => true) true t v d ps) (hb : Below W.heap.size W W') (hlt : ∀ x ∈ ps, x.block < W.heap.size) :
  DataW.Trod enc P W' 0 (fun b => decide (b < W.heap.size)) true t v d ps := Below.trod hl hr (dT hrow) h hb hlt
end
section
open Go.RowKit Go.WideShapes Go.ChangeShapes
section
variable {P : Program} {n : Sh} {f : Fr}
/-- a string's bytes in a block of their own -/
theorem WL.s2b {ops : Array Oper} {Q : Exit → Fr → World → Prop} {w : World} {rest : List Oper} {d ty : Nat} {pos : String} {aft : Array Edge} {x : Operand} {src dst e : TypeId} {l : List UInt8}
  (hs : P.underlying src = some .string) (hd' : P.underlying dst = some (.slice e)) (he : P.underlying e = some (.int .u8)) (hx : evo f x = some (.string (bs l))) (hd : Nat.blt d n.n = true)
  (k : ∀ b w1 c, b = w.heap.size → BytesAt w1 (some ⟨b, 0, none⟩) l → l.length ≤ c → Upd b w w1 → w1.heap.size = b + 1 → WL P n ops Q rest ((d, .slice (some ⟨b, 0, none⟩) l.length c) :: f) w1) :
  WL P n ops Q (⟨some d, .convert src dst x, ty, pos, aft, none⟩ :: rest) f w := by
 have hrun := Lib.run_convert_string_bytes (P := P) w src dst e (bs l) hs hd' he
 have hsz : (bs l).size = l.length := by simp [bs, ByteArray.size]
 have hu : Upd w.heap.size w (Lib.bytesWorld w e (bs l)) := ⟨rfl, rfl, rfl, by rw [Lib.bytesWorld_size]; omega, fun j hj => by
  rcases Nat.lt_or_ge j w.heap.size with h | h
  ·
   exact Lib.bytesWorld_at_old w e (bs l) j h
  ·
   rw [Array.getElem?_eq_none (by rw [Lib.bytesWorld_size]; omega), Array.getElem?_eq_none h]⟩
 refine WL.run hd (w' := Lib.bytesWorld w e (bs l)) (v := .slice (some ⟨w.heap.size, 0, none⟩) l.length (grownCap w l.length 0 e)) (fun ρ hρ => ?_)
  (k _ _ _ rfl ⟨fun _ => rfl, fun j hj => ?_⟩ (grownCap_ge w l.length 0 e) hu (Lib.bytesWorld_size w e (bs l)))
 ·
  unfold execOp
  simp only [hρ _ _ hx, Sem.run_bind, hrun, Result.andThen_ok, Sem.run_pure, hsz]
 ·
  have e1 : (pA (some ⟨w.heap.size, 0, none⟩)).add j = ⟨w.heap.size, j, none⟩ := by
   show (⟨w.heap.size, 0, none⟩ : Addr).add j = _
   unfold Addr.add; split
   ·
    next h => rw [h]
   ·
    simp
  rw [e1, Lib.bytesWorld_cell w e (bs l) j (by rw [hsz]; exact hj)]
  simp [bs, List.getD, hj]
/-- a literal as a row of the call's own -/
theorem Own.lit {w : World} {b m : Nat} {cs : Array Value} {e : TypeId} (h : Blk w b cs e) (hm : cs.size = m) (hl : m ≤ maxLen) : Own e b w (.slice (some ⟨b, 0, none⟩) m m) cs.toList := by
 subst hm
 refine ⟨by simp, .inr ⟨b, cs.size, cs, ?_, Nat.le_refl _, h, by simp, hl, by simp, by rw [List.take_of_length_le (by simp)]⟩⟩
 simp
end
/-- elements of one cell each in memory -/
structure RowAt {α : Type} (V : α → Value) (w : World) (p : Option Addr) (l : List α) : Prop where
 isp : 0 < l.length → p = some (pA p)
 cells : ∀ j (h : j < l.length), w.cell? ((pA p).add j) = some (V l[j])
section
variable {α : Type} {V : α → Value}
theorem RowAt.lt {w : World} {p : Option Addr} {l : List α} (h : RowAt V w p l) (h0 : 0 < l.length) : (pA p).block < w.heap.size := by
 have := h.cells 0 h0
 rcases Nat.lt_or_ge (pA p).block w.heap.size with h' | h'
 ·
  exact h'
 ·
  exfalso
  have hb : ((pA p).add 0).block = (pA p).block := add_block _ _
  unfold World.cell? at this
  rw [hb, Array.getElem?_eq_none h'] at this
  cases this
theorem RowAt.below {w w1 : World} {B : Nat} {p : Option Addr} {l : List α} (h : RowAt V w p l) (hb : Below B w w1) (hp : 0 < l.length → (pA p).block < B) : RowAt V w1 p l :=
 ⟨h.isp, fun j hj => by rw [World.cell?_of_block (w := w) (hb.block _ (by rw [add_block]; exact hp oO))]; exact h.cells j hj⟩
theorem RowAt.upd {w w1 : World} {b : Nat} {p : Option Addr} {l : List α} (h : RowAt V w p l) (hu : Upd b w w1) (hp : 0 < l.length → (pA p).block ≠ b) : RowAt V w1 p l :=
 ⟨h.isp, fun j hj => by rw [World.cell?_of_block (w := w) (hu.other _ (by rw [add_block]; exact hp oO))]; exact h.cells j hj⟩
theorem RowAt.drewN {w : World} {p : Option Addr} {l : List α} (h : RowAt V w p l) (m : Nat) : RowAt V (w.drewN m) p l := ⟨h.isp, h.cells⟩
theorem RowAt.drew {w w1 : World} {p : Option Addr} {l : List α} (h : RowAt V w p l) (d : Drew w w1) : RowAt V w1 p l := by obtain ⟨m, rfl⟩ := d; exact h.drewN m
theorem RowAt.nil (w : World) : RowAt V w none [] := ⟨fun h => by simp at h, fun j h => by simp at h⟩
theorem RowAt.lit {w : World} {b : Nat} {cs : Array Value} {t : TypeId} {l : List α} (h : Blk w b cs t) (e : cs = (l.map V).toArray) : RowAt V w (some ⟨b, 0, none⟩) l := by
 subst e
 refine ⟨fun _ => rfl, fun j hj => ?_⟩
 have e1 : (pA (some ⟨b, 0, none⟩)).add j = ⟨b, j, none⟩ := by
  show (⟨b, 0, none⟩ : Addr).add j = _
  unfold Addr.add; split
  ·
   next h => subst h; rfl
  ·
   simp
 rw [e1, h.cell j]
 simp [hj]
/-- an own row read as elements -/
theorem Own.row {e : TypeId} {B : Nat} {w : World} {v : Value} {l : List α} (h : Own e B w v (l.map V)) : ∃ p c, v = .slice p l.length c ∧ RowAt V w p l ∧ (0 < l.length → B ≤ (pA p).block) ∧ l.length ≤ c ∧ (l = [] → c = 0 ∨ p ≠ none) := by
  have hbl : (l.map V).length = l.length := by simp
  obtain ⟨hl, h⟩ := h
  rcases h with ⟨rfl, h0⟩ | ⟨g, cap, cur, rfl, hB, hg, hnc, hcm, hcs, htake⟩
  · obtain rfl : l = [] := by rw [hbl] at h0; exact List.length_eq_zero_iff.1 h0
    exact ⟨none, 0, rfl, RowAt.nil w, fun h => by simp at h, Nat.le_refl _, fun _ => .inl rfl⟩
  · rw [hbl] at hnc htake ⊢
    refine ⟨_, cap, rfl, ⟨fun _ => rfl, fun j hj => ?_⟩, fun _ => hB, hnc, fun _ => .inr (by simp)⟩
    have e1 : (pA (some ⟨g, 0, none⟩)).add j = ⟨g, j, none⟩ := by
      show (⟨g, 0, none⟩ : Addr).add j = _
      unfold Addr.add; split
      · next h => subst h; rfl
      · simp
    have hc := Lib.cell_of_heap hg j
    rw [e1, hc, ← Array.getElem?_toList]
    have h2 : (cur.toList.take (l.length * 1))[j]? = (l.map V)[j]? := by rw [htake]
    rw [List.getElem?_take, if_pos oO] at h2
    rw [h2]
    simp [hj]
end
/-- a string's byte, the index of any kind -/
theorem Pure.ixk {P : Program} {f : Fr} {x y : Operand} {tx : TypeId} {l : List UInt8} {kd : IntKind} {i : Int} (hu : P.underlying tx = some .string) (hx : evo f x = some (.string (bs l))) (hi : evo f y = some (.int kd i)) (k : Nat) (e : i = k) (hk : k < l.length) : Pure P (.index tx x y) f (.int .u8 (l[k].toNat : Int)) := fun ρ hρ d ty pos aft g w => by
 subst e
 have h1 : (bs l)[k]? = some l[k] := by
  have : k < (bs l).size := by rw [bs_size]; exact hk
  rw [getElem?_pos (bs l) k this]; rfl
 simp [execOp, Instr.index, hρ _ _ hx, hρ _ _ hi, asIntOf, run_underlying hu, h1]
/-- strings -/
abbrev strV (s : List UInt8) : Value := .string (bs s)
end
section
open Go.RowKit Go.WideShapes Go.ChangeShapes
/-- bytes as a conversion of a string lays them: the row's end is marked -/
structure Raw (w : World) (b c : Nat) (e : TypeId) (l : List UInt8) : Prop where
 cur : ∃ cur : Array Value, w.heap[b]? = some (.cells cur e (cur.size, cur.size + 1)) ∧ cur.size = c ∧ cur.toList.take l.length = byteVals l
 le : l.length ≤ c
theorem bytes_of_take {w : World} {g : Nat} {cur : Array Value} {e : TypeId} {fz : Nat × Nat} {l : List UInt8} (hg : w.heap[g]? = some (.cells cur e fz)) (ht : cur.toList.take l.length = byteVals l) : BytesAt w (some ⟨g, 0, none⟩) l := by
 refine ⟨fun _ => rfl, fun j hj => ?_⟩
 have e1 : (pA (some ⟨g, 0, none⟩)).add j = ⟨g, j, none⟩ := by
  show (⟨g, 0, none⟩ : Addr).add j = _
  unfold Addr.add; split
  ·
   next h => subst h; rfl
  ·
   simp
 rw [e1, Lib.cell_of_heap hg j, ← Array.getElem?_toList]
 have h2 : (cur.toList.take l.length)[j]? = (byteVals l)[j]? := by rw [ht]
 rw [List.getElem?_take, if_pos hj] at h2
 rw [h2]
 simp [byteVals, hj]
theorem Raw.bytes {w : World} {b c : Nat} {e : TypeId} {l : List UInt8} (h : Raw w b c e l) : BytesAt w (some ⟨b, 0, none⟩) l := by
 obtain ⟨cur, hg, -, ht⟩ := h.cur
 exact bytes_of_take hg ht
theorem Own.cat {e : TypeId} {B : Nat} {w : World} {v : Value} {l m : List UInt8} (h : Own e B w v (byteVals l ++ byteVals m)) : Own e B w v (byteVals (l ++ m)) := by
 rw [show byteVals (l ++ m) = byteVals l ++ byteVals m by simp [byteVals]]; exact h
end
section
open Go.RowKit Go.WideShapes Go.ChangeShapes
section
variable {P : Program} {n : Sh} {f : Fr}
/-- a part of a string -/
theorem Pure.slS {tx : TypeId} {x y z : Operand} {l : List UInt8} {kd ke : IntKind} {i j : Int} (hu : P.underlying tx = some .string) (hx : evo f x = some (.string (bs l))) (hi : evo f y = some (.int kd i)) (hj : evo f z = some (.int ke j)) (a b : Nat) (ei : i = a) (ej : j = b) (hab : a ≤ b) (hb : b ≤ l.length) :
  Pure P (.slice tx x (some y) (some z) none) f (.string (bs ((l.drop a).take (b - a)))) := fun ρ hρ d ty pos aft g w => by
 subst ei; subst ej
 have h3 : ¬ (b < a) := by omega
 simp [execOp, Instr.sliceAt, Instr.slice, Instr.sliceBounds, Instr.sliceBound, hρ _ _ hx, hρ _ _ hi, hρ _ _ hj, asIntOf, run_underlying hu, hab, hb, h3, fbs_extract, bs_size]
end
end
section
open Go.RowKit Go.WideShapes Go.ChangeShapes
theorem add_lit (b o j : Nat) : (⟨b, o, none⟩ : Addr).add j = ⟨b, o + j, none⟩ := by
 unfold Addr.add; split <;> simp_all
/-- how an element is laid: m cells, each of one value -/
structure Lay (α : Type) where
 m : Nat
 V : α → List Value
 pos : 0 < m
 len : ∀ x, (V x).length = m
 one : ∀ x, ∀ v ∈ V x, v.oneCell' = true
variable {α : Type}
def Lay.flat (L : Lay α) (l : List α) : List Value := l.flatMap L.V
theorem Lay.flat_len (L : Lay α) : ∀ l : List α, (L.flat l).length = l.length * L.m
 | [] => by simp [Lay.flat]
 | x :: l => by
  have := L.flat_len l
  unfold Lay.flat at this ⊢
  simp only [List.flatMap_cons, List.length_append, L.len, this, List.length_cons, Nat.succ_mul]; omega
theorem Lay.flat_append (L : Lay α) (l k : List α) : L.flat (l ++ k) = L.flat l ++ L.flat k := by simp [Lay.flat]
theorem Lay.flat_one (L : Lay α) (l : List α) : ∀ v ∈ L.flat l, v.oneCell' = true := by
 intro v hv
 simp only [Lay.flat, List.mem_flatMap] at hv
 obtain ⟨x, -, h⟩ := hv
 exact L.one x v h
theorem Lay.flat_at (L : Lay α) : ∀ (l : List α) (j : Nat) (h : j < l.length) (i : Nat), i < L.m → (L.flat l)[j * L.m + i]? = (L.V l[j])[i]?
 | x :: l, 0, h, i, hi => by
  simp only [Lay.flat, List.flatMap_cons, Nat.zero_mul, Nat.zero_add, List.getElem_cons_zero]
  rw [List.getElem?_append_left (by rw [L.len]; exact hi)]
 | x :: l, j + 1, h, i, hi => by
  have ih := L.flat_at l j (by simpa using h) i hi
  simp only [Lay.flat, List.flatMap_cons, List.getElem_cons_succ] at ih ⊢
  rw [List.getElem?_append_right (by rw [L.len, Nat.succ_mul]; omega), L.len, ← ih]
  congr 1
  rw [Nat.succ_mul]; omega
theorem Lay.flat_take (L : Lay α) (l : List α) (k : Nat) : (L.flat l).take (k * L.m) = L.flat (l.take k) := by
 induction l generalizing k with
 | nil => simp [Lay.flat]
 | cons x l ih =>
  cases k with
  | zero => simp [Lay.flat]
  | succ k =>
   have := ih k
   simp only [Lay.flat, List.flatMap_cons, List.take_succ_cons] at this ⊢
   rw [List.take_append, L.len, List.take_of_length_le (by rw [L.len, Nat.succ_mul]; omega), ← this]
   congr 2
   rw [Nat.succ_mul]; omega
theorem Lay.flat_drop (L : Lay α) (l : List α) (k : Nat) : (L.flat l).drop (k * L.m) = L.flat (l.drop k) := by
 induction l generalizing k with
 | nil => simp [Lay.flat]
 | cons x l ih =>
  cases k with
  | zero => simp [Lay.flat]
  | succ k =>
   have := ih k
   simp only [Lay.flat, List.flatMap_cons, List.drop_succ_cons] at this ⊢
   rw [List.drop_append, L.len, List.drop_of_length_le (by rw [L.len, Nat.succ_mul]; omega), List.nil_append, ← this]
   congr 1
   rw [Nat.succ_mul]; omega
/-- elements of several cells each in memory -/
structure RowM (L : Lay α) (w : World) (p : Option Addr) (l : List α) : Prop where
 isp : 0 < l.length → p = some (pA p)
 cells : ∀ j (h : j < l.length) i, i < L.m → w.cell? ((pA p).add (j * L.m + i)) = (L.V l[j])[i]?
section
variable {L : Lay α}
theorem RowM.flat {w : World} {p : Option Addr} {l : List α} (h : RowM L w p l) : ∀ k v, (L.flat l)[k]? = some v → w.cell? ((pA p).add k) = some v := by
 intro k v hk
 have hlt : k < (L.flat l).length := by
  rcases Nat.lt_or_ge k (L.flat l).length with h | h
  ·
   exact h
  ·
   rw [List.getElem?_eq_none h] at hk; cases hk
 rw [L.flat_len] at hlt
 have hj : k / L.m < l.length := (Nat.div_lt_iff_lt_mul L.pos).2 hlt
 have hi := Nat.mod_lt k L.pos
 have e : k / L.m * L.m + k % L.m = k := Nat.div_add_mod' k L.m
 have h1 := L.flat_at l (k / L.m) hj (k % L.m) hi
 have h2 := h.cells (k / L.m) hj (k % L.m) hi
 rw [e] at h1 h2
 rw [h2, ← h1, hk]
theorem RowM.of_flat {w : World} {p : Option Addr} {l : List α} (hp : 0 < l.length → p = some (pA p)) (h : ∀ k v, (L.flat l)[k]? = some v → w.cell? ((pA p).add k) = some v) : RowM L w p l :=
 ⟨hp, fun j hj i hi => by
  have h1 := L.flat_at l j hj i hi
  have h2 : i < (L.V l[j]).length := by rw [L.len]; exact hi
  rw [List.getElem?_eq_getElem h2] at h1 ⊢
  exact h _ _ h1⟩
theorem RowM.lt {w : World} {p : Option Addr} {l : List α} (h : RowM L w p l) (h0 : 0 < l.length) : (pA p).block < w.heap.size := by
 have hc := h.cells 0 h0 0 L.pos
 rw [List.getElem?_eq_getElem (by rw [L.len]; exact L.pos)] at hc
 rcases Nat.lt_or_ge (pA p).block w.heap.size with h' | h'
 ·
  exact h'
 ·
  exfalso
  have hb : ((pA p).add (0 * L.m + 0)).block = (pA p).block := add_block _ _
  unfold World.cell? at hc
  rw [hb, Array.getElem?_eq_none h'] at hc
  cases hc
theorem RowM.same {w w1 : World} {p : Option Addr} {l : List α} (h : RowM L w p l) (hb : 0 < l.length → w1.heap[(pA p).block]? = w.heap[(pA p).block]?) : RowM L w1 p l :=
 ⟨h.isp, fun j hj i hi => by rw [World.cell?_of_block (w := w) (by rw [add_block]; exact hb oO)]; exact h.cells j hj i hi⟩
theorem RowM.below {w w1 : World} {B : Nat} {p : Option Addr} {l : List α} (h : RowM L w p l) (hb : Below B w w1) (hp : 0 < l.length → (pA p).block < B) : RowM L w1 p l := h.same fun h0 => hb.block _ (hp h0)
theorem RowM.upd {w w1 : World} {b : Nat} {p : Option Addr} {l : List α} (h : RowM L w p l) (hu : Upd b w w1) (hp : 0 < l.length → (pA p).block ≠ b) : RowM L w1 p l := h.same fun h0 => hu.other _ (hp h0)
theorem RowM.drewN {w : World} {p : Option Addr} {l : List α} (h : RowM L w p l) (m : Nat) : RowM L (w.drewN m) p l := ⟨h.isp, h.cells⟩
theorem RowM.drew {w w1 : World} {p : Option Addr} {l : List α} (h : RowM L w p l) (d : Drew w w1) : RowM L w1 p l := by obtain ⟨m, rfl⟩ := d; exact h.drewN m
theorem RowM.nil (w : World) : RowM L w none [] := ⟨fun h => by simp at h, fun j h => by simp at h⟩
/-- a part of it -/
def pPartM (m : Nat) (p : Option Addr) (c a : Nat) : Option Addr := if c = a then p else p.map (·.add (a * m))
theorem RowM.part {w : World} {p : Option Addr} {l : List α} {c a b : Nat} (h : RowM L w p l) (hab : a ≤ b) (hb : b ≤ l.length) (hc : l.length ≤ c) : RowM L w (pPartM L.m p c a) ((l.drop a).take (b - a)) := by
  have hlen : ((l.drop a).take (b - a)).length = b - a := by rw [List.length_take, List.length_drop]; omega
  by_cases h0 : a = b
  · refine ⟨fun h => ?_, fun j hj => ?_⟩ <;> rw [hlen] at * <;> omega
  · have hp := h.isp oO
    have e1 : pPartM L.m p c a = some ((pA p).add (a * L.m)) := by unfold pPartM; rw [if_neg oO]; rw [hp]; rfl
    rw [e1]
    refine ⟨fun _ => rfl, fun j hj i hi => ?_⟩
    rw [hlen] at hj
    show w.cell? (((pA p).add (a * L.m)).add (j * L.m + i)) = _
    rw [add_add, show a * L.m + (j * L.m + i) = (a + j) * L.m + i by rw [Nat.add_mul]; omega, h.cells (a + j) oO i hi]
    simp
/-- such a row of the call's own: from block B on; the row may go on behind the slice's room -/
def OwnM (L : Lay α) (e : TypeId) (B : Nat) (w : World) (v : Value) (l : List α) : Prop :=
 (v = .slice none 0 0 ∧ l = []) ∨ ∃ g cap cur, v = .slice (some ⟨g, 0, none⟩) l.length cap ∧ B ≤ g ∧ w.heap[g]? = some (.cells cur e (0, 0)) ∧ l.length ≤ cap ∧ cap ≤ maxLen ∧ cap * L.m ≤ cur.size ∧ cur.toList.take (l.length * L.m) = L.flat l
theorem OwnM.nil (L : Lay α) (e : TypeId) (B : Nat) (w : World) : OwnM L e B w (.slice none 0 0) [] := .inl ⟨rfl, rfl⟩
theorem OwnM.of {e : TypeId} {B : Nat} {w : World} {v : Value} {l : List α} (h : w.ownsRow B e L.m v l.length (L.flat l)) : OwnM L e B w v l := by
 obtain ⟨hl, h⟩ := h
 rcases h with ⟨rfl, h0⟩ | ⟨g, cap, cur, h1, h2, h3, h4, h5, h6, h7⟩
 ·
  exact .inl ⟨rfl, List.length_eq_zero_iff.1 h0⟩
 ·
  exact .inr ⟨g, cap, cur, h1, h2, h3, h4, h5, by omega, h7⟩
theorem OwnM.row {e : TypeId} {B : Nat} {w : World} {v : Value} {l : List α} (h : OwnM L e B w v l) : ∃ p c, v = .slice p l.length c ∧ RowM L w p l ∧ (∀ a, p = some a → B ≤ a.block) ∧ l.length ≤ c ∧ (l = [] → c = 0 ∨ p ≠ none) ∧ v.ownBlock = p.map (·.block) ∧ c ≤ maxLen ∧ (p = none ∨ ∃ g, p = some ⟨g, 0, none⟩) := by
  rcases h with ⟨rfl, rfl⟩ | ⟨g, cap, cur, rfl, hB, hg, hnc, hcm, hcs, htake⟩
  · exact ⟨none, 0, rfl, RowM.nil w, fun a h => (by cases h), Nat.le_refl _, fun _ => .inl rfl, rfl, (by unfold maxLen; omega), .inl rfl⟩
  · refine ⟨_, cap, rfl, RowM.of_flat (fun _ => rfl) fun k v hk => ?_, fun a h => (by cases h; exact hB), hnc, fun _ => .inr (by simp), rfl, hcm, .inr ⟨g, rfl⟩⟩
    show w.cell? ((⟨g, 0, none⟩ : Addr).add k) = _
    rw [add_lit, Nat.zero_add, Lib.cell_of_heap hg k, ← Array.getElem?_toList]
    have h2 : (cur.toList.take (l.length * L.m))[k]? = (L.flat l)[k]? := by rw [htake]
    have hk2 : k < (L.flat l).length := by
      rcases Nat.lt_or_ge k (L.flat l).length with h | h
      · exact h
      · rw [List.getElem?_eq_none h] at hk; cases hk
    rw [L.flat_len] at hk2
    rw [List.getElem?_take, if_pos hk2] at h2
    rw [h2, hk]
theorem OwnM.same {e : TypeId} {B : Nat} {w w1 : World} {v : Value} {l : List α} (h : OwnM L e B w v l) (hb : ∀ g, v.ownBlock = some g → w1.heap[g]? = w.heap[g]?) : OwnM L e B w1 v l := by
 refine h.imp id fun ⟨g, cap, cur, h1, h2, h3, h4⟩ => ⟨g, cap, cur, h1, h2, ?_, h4⟩
 rw [hb g (by rw [h1]; rfl)]; exact h3
theorem OwnM.lt {e : TypeId} {B : Nat} {w : World} {v : Value} {l : List α} (h : OwnM L e B w v l) : ∀ g, v.ownBlock = some g → B ≤ g ∧ g < w.heap.size := by
 intro g hg
 rcases h with ⟨rfl, rfl⟩ | ⟨g', cap, cur, rfl, hB, h3, h4⟩
 ·
  cases hg
 ·
  cases hg
  exact ⟨hB, (Array.getElem?_eq_some_iff.1 h3).1⟩
theorem OwnM.base {e : TypeId} {B C : Nat} {w : World} {v : Value} {l : List α} (h : OwnM L e B w v l) (hC : ∀ g, v.ownBlock = some g → C ≤ g) : OwnM L e C w v l :=
 h.imp id fun ⟨g, cap, cur, h1, h2, h3⟩ => ⟨g, cap, cur, h1, hC g (by rw [h1]; rfl), h3⟩
theorem OwnM.drew {e : TypeId} {B : Nat} {w w1 : World} {v : Value} {l : List α} (h : OwnM L e B w v l) (d : Drew w w1) : OwnM L e B w1 v l := by obtain ⟨m, rfl⟩ := d; exact h
theorem OwnM.below {e : TypeId} {B : Nat} {w w1 : World} {v : Value} {l : List α} (h : OwnM L e B w v l) (hb : Below w.heap.size w w1) : OwnM L e B w1 v l := h.same fun g hg => hb.block g (h.lt g hg).2
theorem OwnM.new {e : TypeId} {B b : Nat} {w w1 : World} {v : Value} {l : List α} (h : OwnM L e B w v l) (eb : b = w.heap.size) (hu : Upd b w w1) : OwnM L e B w1 v l := h.same fun g hg => hu.other g (by have := (h.lt g hg).2; omega)
theorem OwnM.upd {e : TypeId} {B r : Nat} {w w1 : World} {v : Value} {l : List α} (h : OwnM L e B w v l) (hu : Upd r w w1) (hr : ∀ g, v.ownBlock = some g → g ≠ r) : OwnM L e B w1 v l := h.same fun g hg => hu.other g (hr g hg)
theorem OwnM.touch {e : TypeId} {B r : Nat} {w w1 : World} {v : Value} {l : List α} (h : OwnM L e B w v l) (hu : Upd r w w1) (hr : r < B) : OwnM L e B w1 v l := h.same fun g hg => hu.other g (by have := (h.lt g hg).1; omega)
theorem OwnM.one {e : TypeId} {B : Nat} {w : World} {v : Value} {l : List α} (h : OwnM L e B w v l) : v.oneCell' = true := by
 rcases h with ⟨rfl, -⟩ | ⟨g, cap, cur, rfl, -⟩ <;> rfl
/-- the first k alone -/
theorem OwnM.cut {e : TypeId} {B : Nat} {w : World} {p : Option Addr} {n c : Nat} {l : List α} (h : OwnM L e B w (.slice p n c) l) (k : Nat) (hk : k ≤ l.length) : OwnM L e B w (.slice p k k) (l.take k) := by
 rcases h with ⟨h1, rfl⟩ | ⟨g, cap, cur, h1, hB, hg, hnc, hcm, hcs, htake⟩
 ·
  cases h1
  obtain rfl : k = 0 := by simpa using hk
  exact .inl ⟨rfl, by simp⟩
 ·
  cases h1
  have hlen : (l.take k).length = k := by rw [List.length_take]; omega
  refine .inr ⟨g, k, cur, by rw [hlen], hB, hg, by rw [hlen]; exact Nat.le_refl _, by omega, Nat.le_trans (Nat.mul_le_mul_right _ oO) hcs, ?_⟩
  rw [hlen, ← L.flat_take, ← htake, List.take_take, Nat.min_eq_left (Nat.mul_le_mul_right _ hk)]
end
/-- a stretch of what may have turned: only these blocks of the old ones -/
structure Keep (S : List Nat) (w w1 : World) : Prop where
 os : w1.os = w.os
 tape : w1.tape = w.tape
 output : w1.output = w.output
 size : w.heap.size ≤ w1.heap.size
 block : ∀ k, k < w.heap.size → k ∉ S → w1.heap[k]? = w.heap[k]?
theorem Keep.refl (S : List Nat) (w : World) : Keep S w w := ⟨rfl, rfl, rfl, Nat.le_refl _, fun _ _ _ => rfl⟩
theorem Keep.below {S : List Nat} {w w1 : World} (h : Keep S w w1) {B : Nat} (hB : B ≤ w.heap.size) (hS : ∀ k ∈ S, B ≤ k) : Below B w w1 :=
 ⟨h.os, h.tape, h.output, h.size, fun k hk => h.block k oO fun hm => by have := hS k hm; omega⟩
/-- .. from an older world on -/
structure KeepB (B : Nat) (S : List Nat) (w w1 : World) : Prop where
 os : w1.os = w.os
 tape : w1.tape = w.tape
 output : w1.output = w.output
 size : w.heap.size ≤ w1.heap.size
 block : ∀ k, k < B → k ∉ S → w1.heap[k]? = w.heap[k]?
theorem KeepB.trans {B : Nat} {S : List Nat} {a b c : World} (h : KeepB B S a b) (k : KeepB B S b c) : KeepB B S a c :=
 ⟨k.os.trans h.os, k.tape.trans h.tape, k.output.trans h.output, Nat.le_trans h.size k.size, fun i hi hr => (k.block i hi hr).trans (h.block i hi hr)⟩
theorem KeepB.mono {B B' : Nat} {S : List Nat} {a b : World} (h : KeepB B' S a b) (hB : B ≤ B') : KeepB B S a b := ⟨h.os, h.tape, h.output, h.size, fun i hi hS => h.block i oO hS⟩
theorem Blk.keepB {B c : Nat} {S : List Nat} {w w1 : World} {cs : Array Value} {t : TypeId} (h : Blk w c cs t) (hT : KeepB B S w w1) (hc : c < B) (hS : c ∉ S) : Blk w1 c cs t := (hT.block c hc hS).trans h
theorem RowM.keepB {L : Lay α} {B : Nat} {S : List Nat} {w w1 : World} {p : Option Addr} {l : List α} (h : RowM L w p l) (hT : KeepB B S w w1) (hp : 0 < l.length → (pA p).block < B ∧ (pA p).block ∉ S) : RowM L w1 p l := h.same fun h0 => hT.block _ (hp h0).1 (hp h0).2
theorem OwnM.keepB {L : Lay α} {e : TypeId} {B C : Nat} {S : List Nat} {w w1 : World} {v : Value} {l : List α} (h : OwnM L e C w v l) (hT : KeepB B S w w1) (hp : ∀ g, v.ownBlock = some g → g < B ∧ g ∉ S) : OwnM L e C w1 v l := h.same fun g hg => hT.block g (hp g hg).1 (hp g hg).2
theorem KeepB.of_below {B B' : Nat} {S : List Nat} {a b : World} (h : Below B' a b) (hB : B ≤ B') : KeepB B S a b := ⟨h.os, h.tape, h.output, h.size, fun i hi _ => h.block i oO⟩
theorem KeepB.of_new {B c : Nat} {S : List Nat} {a b : World} (h : Upd c a b) (hc : B ≤ c) : KeepB B S a b := ⟨h.os, h.tape, h.output, h.size, fun i hi _ => h.other i oO⟩
theorem KeepB.of_mem {B c : Nat} {S : List Nat} {a b : World} (h : Upd c a b) (hc : c ∈ S) : KeepB B S a b := ⟨h.os, h.tape, h.output, h.size, fun i _ hS => h.other i (fun e => hS (e ▸ hc))⟩
theorem KeepB.of_grown {B : Nat} {S : List Nat} {a b : World} {row : Option Nat} (h : a.grownBy b row) (hr : ∀ g, row = some g → g ∈ S ∨ B ≤ g) (hB : B ≤ a.heap.size) : KeepB B S a b :=
 ⟨h.os, h.tape, h.output, h.size, fun i hi hS => h.block i oO fun e => by rcases hr i e.symm with h | h <;> first | exact hS h | omega⟩
theorem KeepB.below {B C : Nat} {S : List Nat} {w w1 : World} (h : KeepB B S w w1) (hB : C ≤ B) (hS : ∀ k ∈ S, C ≤ k) : Below C w w1 :=
 ⟨h.os, h.tape, h.output, h.size, fun k hk => h.block k oO fun hm => by have := hS k hm; omega⟩
theorem KeepB.refl (B : Nat) (S : List Nat) (w : World) : KeepB B S w w := ⟨rfl, rfl, rfl, Nat.le_refl _, fun _ _ _ => rfl⟩
section
variable {P : Program} {n : Sh} {f : Fr} {L : Lay α}
/-- elements put behind a row of the call's own -/
theorem WL.appMb {ops : Array Oper} {Q : Exit → Fr → World → Prop} {w : World} {rest : List Oper} {d ty : Nat} {pos : String} {aft : Array Edge} {s x : Operand} {t e : TypeId} {B : Nat} {z v : Value} {xs l : List α} {p : Option Addr} {c by' : Nat}
  (ht : P.underlying t = some (.slice e)) (hi : (P.info? e).map (fun i => (i.zero, i.size, i.bytes)) = some (some z, L.m, by')) (hby2 : Nat.ble by' 1000 = true) (hzs : z.cells.size = L.m)
  (hs : evo f s = some v) (hown : OwnM L e B w v xs) (hx : evo f x = some (.slice p l.length c)) (hb : RowM L w p l)
  (hn : xs.length + l.length ≤ 4611686018427387904) (hbt : (xs.length + l.length) * by' ≤ 140737488355328) (hB : B ≤ w.heap.size) (hd : Nat.blt d n.n = true) (hc : l = [] → c = 0 ∨ p ≠ none)
  (k : ∀ v' w', OwnM L e B w' v' (xs ++ l) → Below B w w' → w.grownBy w' v.ownBlock → (∀ g, v'.ownBlock = some g → v.ownBlock = some g ∨ w.heap.size ≤ g) → WL P n ops Q rest ((d, v') :: f) w') :
  WL P n ops Q (⟨some d, .call ⟨.builtin .append, #[s, x], #[t, t]⟩, ty, pos, aft, none⟩ :: rest) f w := by
 cases hh : P.info? e with
 | none => rw [hh] at hi; cases hi
 | some i =>
  rw [hh] at hi
  simp only [Option.map_some, Option.some.injEq, Prod.mk.injEq] at hi
  obtain ⟨hz, hsize, hby⟩ := hi
  have hby2' : by' ≤ 1000 := by simpa using hby2
  have hlx := L.flat_len xs
  have hll := L.flat_len l
  have e1 : (xs ++ l).length = xs.length + l.length := by simp
  have fin : ∀ (w' : World) (g cap : Nat) (cur : Array Value), B ≤ g → w'.heap[g]? = some (.cells cur e (0, 0)) → xs.length + l.length ≤ cap → cap ≤ maxLen → cap * L.m ≤ cur.size → cur.toList.take ((xs.length + l.length) * L.m) = L.flat xs ++ L.flat l →
    OwnM L e B w' (.slice (some ⟨g, 0, none⟩) (xs.length + l.length) cap) (xs ++ l) := fun w' g cap cur h1 h2 h3 h4 h5 h6 =>
   .inr ⟨g, cap, cur, by rw [e1], h1, h2, by rw [e1]; exact h3, h4, h5, by rw [e1, h6, L.flat_append]⟩
  have run : ∀ (v' : Value) (w' : World), (Builtin.append_ #[t, t] ty #[v, .slice p l.length c]).run P w = .ok v' w' → OwnM L e B w' v' (xs ++ l) → w.grownBy w' v.ownBlock → (∀ g, v'.ownBlock = some g → v.ownBlock = some g ∨ w.heap.size ≤ g) →
    WL P n ops Q (⟨some d, .call ⟨.builtin .append, #[s, x], #[t, t]⟩, ty, pos, aft, none⟩ :: rest) f w := fun v' w' h2 h3 h4 h5 => by
   refine WL.run hd (w' := w') (v := v') (fun ρ hρ => ?_) (k v' w' h3 ((Below.refl _ _).grown h4 hB fun k hk => (hown.lt k hk).1) h4 h5)
   unfold execOp
   simp only [resolve, invoke, builtin, Sem.run_bind, Sem.run_pure, Result.andThen_ok, List.map_toArray, List.map_cons, List.map_nil, hρ _ _ hs, hρ _ _ hx, h2]
  cases hp : p with
  | none =>
   have hl : l = [] := by
    cases l with
    | nil => rfl
    | cons a r => have := hb.isp (by simp); rw [hp] at this; cases this
   have hc0 : c = 0 := (hc hl).resolve_right (fun h => h hp)
   subst hp; subst hl; subst hc0
   refine run v w ?_ (by rw [List.append_nil]; exact hown) ⟨rfl, rfl, rfl, Nat.le_refl _, fun _ _ _ => rfl⟩ fun g hg => .inl hg
   rcases hown with ⟨rfl, rfl⟩ | ⟨g, cap, cur, rfl, -, -, hnc, -⟩
   ·
    simp [Builtin.append_, run_underlying ht, sizeOf, typeInfo, hh, Builtin.lenOf, Builtin.firstCells]
   ·
    simp [Builtin.append_, run_underlying ht, sizeOf, typeInfo, hh, Builtin.lenOf, Builtin.firstCells, hnc, storeCells]
  | some a =>
   subst hp
   have hbytes : (xs.length + l.length) * i.bytes ≤ 140737488355328 := by rw [hby]; exact hbt
   rcases hown with ⟨rfl, rfl⟩ | ⟨g, cap, cur, rfl, hBg, hg, hnc, hcm, hcs, htk⟩
   ·
    obtain ⟨v', w', h2, h3, h4, -⟩ := run_append_own (P := P) (w := w) w.heap.size t ty e i z L.m by' ht hh hz hsize hby hzs L.pos (.slice none 0 0) 0 [] (World.ownsRow_nil w w.heap.size e L.m) a l.length c (L.flat l) hll
     (fun j y hj => hb.flat j y hj) (L.flat_one l) (by unfold maxLen; omega) (by simp only [List.length_nil] at hbytes; rw [hby] at hbytes; exact hbytes) (Nat.le_refl _)
    have h3' : OwnM L e w.heap.size w' v' ([] ++ l) := OwnM.of (by rw [List.nil_append]; simpa using h3)
    exact run v' w' h2 (h3'.base fun g hg => Nat.le_trans hB (h3'.lt g hg).1) h4 fun g hg => .inr (h3'.lt g hg).1
   ·
    by_cases hroom : xs.length + l.length ≤ cap
    ·
     have hfit : xs.length * i.size + (L.flat l).length ≤ cur.size := by
      rw [hsize, hll, ← Nat.add_mul]; exact Nat.le_trans (Nat.mul_le_mul_right _ hroom) hcs
     have h2 := run_append_room (P := P) w t ty e i ht hh g xs.length cap cur hg a l.length c (L.flat l) (by rw [hsize]; exact hll) (fun j y hj => hb.flat j y hj) (L.flat_one l) hroom hfit
     refine run _ _ h2 (fin _ g cap _ hBg (setRow_heap w g cur _ e _ hg) hroom hcm ?_ ?_) ⟨rfl, rfl, rfl, by simp, fun k _ hk => setRow_other w g k _ (fun e => hk (by simp [Value.ownBlock, e]))⟩ fun g hg => .inl hg
     ·
      simp only [List.size_toArray, List.length_append, List.length_take, List.length_drop, Array.length_toList]
      omega
     ·
      show (cur.toList.take (xs.length * i.size) ++ L.flat l ++ _).take _ = _
      rw [hsize, htk, List.take_append_of_le_length (by rw [List.length_append, hlx, hll, Nat.add_mul]; omega), List.take_of_length_le (by rw [List.length_append, hlx, hll, Nat.add_mul]; omega)]
    ·
     have holds : ∀ j u, (L.flat xs)[j]? = some u → w.cell? ((⟨g, 0, none⟩ : Addr).add j) = some u := fun j u hj => by
      have hj2 : j < (L.flat xs).length := by
       rcases Nat.lt_or_ge j (L.flat xs).length with h | h
       ·
        exact h
       ·
        rw [List.getElem?_eq_none h] at hj; cases hj
      rw [add_lit, Nat.zero_add, Lib.cell_of_heap hg j, ← Array.getElem?_toList]
      have h2 : (cur.toList.take (xs.length * L.m))[j]? = (L.flat xs)[j]? := by rw [htk]
      rw [List.getElem?_take, if_pos (by rw [← hlx]; exact hj2)] at h2
      rw [h2, hj]
     have hr2 := run_append_grow (P := P) w t ty e i z ht hh hz ⟨g, 0, none⟩ xs.length cap (L.flat xs) (by rw [hsize]; exact hlx) holds a l.length c (L.flat l) (by rw [hsize]; exact hll) (fun j y hj => hb.flat j y hj) oO oO (growslice_fits oO hbytes)
     have hge := grownCap_ge w (xs.length + l.length) cap e
     have hcm2 : grownCap w (xs.length + l.length) cap e ≤ maxLen := grownCap_le_maxLen w (xs.length + l.length) cap e (by unfold maxLen; omega)
     refine run _ _ hr2 (fin _ w.heap.size _ _ hB (heap_alloc_new w.drew _) hge hcm2 ?_ ?_) ⟨rfl, rfl, rfl, by simp, fun k hk _ => (Upd.alloc w.drew _).other k (by show k ≠ w.heap.size; omega)⟩ fun g hg => .inr (by simp only [Value.ownBlock, Option.some.injEq] at hg; omega)
     ·
      simp only [Array.size_append, List.size_toArray, size_zeroCells, hzs, hlx, hll, ← Nat.add_mul]
      exact Nat.le_of_eq (congrArg (· * L.m) oO)
     ·
      simp only [Array.toList_append, List.append_assoc]
      rw [← List.append_assoc, List.take_append_of_le_length (by rw [List.length_append, hlx, hll, Nat.add_mul]; omega), List.take_of_length_le (by rw [List.length_append, hlx, hll, Nat.add_mul]; omega)]
theorem WL.appM {ops : Array Oper} {Q : Exit → Fr → World → Prop} {w : World} {rest : List Oper} {d ty : Nat} {pos : String} {aft : Array Edge} {s x : Operand} {t e : TypeId} {B : Nat} {z v : Value} {xs l : List α} {p : Option Addr} {c by' : Nat}
  (ht : P.underlying t = some (.slice e)) (hi : (P.info? e).map (fun i => (i.zero, i.size, i.bytes)) = some (some z, L.m, by')) (hby2 : Nat.ble by' 1000 = true) (hzs : z.cells.size = L.m)
  (hs : evo f s = some v) (hown : OwnM L e B w v xs) (hx : evo f x = some (.slice p l.length c)) (hb : RowM L w p l)
  (hn : xs.length + l.length ≤ 10000000) (hB : B ≤ w.heap.size) (hd : Nat.blt d n.n = true) (hc : l = [] → c = 0 ∨ p ≠ none)
  (k : ∀ v' w', OwnM L e B w' v' (xs ++ l) → Below B w w' → w.grownBy w' v.ownBlock → (∀ g, v'.ownBlock = some g → v.ownBlock = some g ∨ w.heap.size ≤ g) → WL P n ops Q rest ((d, v') :: f) w') :
  WL P n ops Q (⟨some d, .call ⟨.builtin .append, #[s, x], #[t, t]⟩, ty, pos, aft, none⟩ :: rest) f w := by
 refine WL.appMb ht hi hby2 hzs hs hown hx hb oO ?_ hB hd hc k
 have h1 : by' ≤ 1000 := by simpa using hby2
 have : (xs.length + l.length) * by' ≤ (xs.length + l.length) * 1000 := Nat.mul_le_mul_left _ h1
 omega
/-- a struct of such a row is read -/
theorem Rd.ldS {t : TypeId} {x : Operand} {p : Option Addr} {l : List α} {w : World} {dd : TypeDesc} (hu : P.underlying t = some dd) (hdd : dd.isRow = true) (hi : (P.info? t).map (·.size) = some L.m) (hb : RowM L w p l) (k : Nat) (hk : k < l.length)
  (hx : evo f x = some (.pointer (some ((pA p).add (k * L.m))))) : Rd P (.load t x) f w (.agg (L.V l[k]).toArray) := fun ρ hρ d ty pos aft g => by
 have hl : (loadCells ((pA p).add (k * L.m)) (L.V l[k]).length).run P w = .ok (L.V l[k]).toArray w :=
  run_loadCells_list (P := P) w ((pA p).add (k * L.m)) (L.V l[k]) (fun j v hv => by
   have hj : j < L.m := by
    rcases Nat.lt_or_ge j L.m with h | h
    ·
     exact h
    ·
     rw [List.getElem?_eq_none (by rw [L.len]; exact h)] at hv; cases hv
   rw [add_add, hb.cells k hk j hj, hv])
 cases hq : P.info? t with
 | none => simp [hq] at hi
 | some i =>
  have hs : i.size = (L.V l[k]).length := by rw [L.len]; simpa [hq] using hi
  have hagg : (isAgg t).run P w = .ok true w := by
   unfold isAgg
   rw [Sem.run_bind, run_underlying hu w]
   cases dd <;> simp_all
  unfold execOp
  simp [hρ _ _ hx, Instr.loadAt, Instr.sureAddr, loadVar, Sem.run_bind, hagg, sizeOf, typeInfo, hq, hs, hl]
/-- a struct of such a row is written -/
theorem list_set_flat (L : Lay α) (l : List α) (k : Nat) (hk : k < l.length) (x : α) : (L.flat l).take (k * L.m) ++ L.V x ++ (L.flat l).drop (k * L.m + L.m) = L.flat (l.set k x) := by
 rw [L.flat_take, show k * L.m + L.m = (k + 1) * L.m by rw [Nat.succ_mul], L.flat_drop, List.set_eq_take_append_cons_drop, if_pos hk]
 simp [Lay.flat]
end
end
section
open Go.RowKit Go.WideShapes Go.ChangeShapes
/-- two results, the first of which lies in memory -/
theorem W.retc2 {P : Program} {fn : Func} {R : Ending → World → Prop} {f : Fr} {w : World} {t u : Tmp} {ty : TypeId} {b : Addr} {v x : Value} (hr : fn.results = #[.cell t ty, .tmp u])
  (ht : look f t = some (.pointer (some b))) (hv : (loadVar ty b).run P w = .ok v w) (hx : look f u = some x) (h : R (.returned (.tuple #[v, x])) w) : Post P fn R .ret f w := by
 unfold Post
 exact ⟨_, fun tmps hh => by
  have e1 := hh _ _ ht; have e2 := hh _ _ hx
  simp only [Array.getD_eq_getD_getElem?] at e1 e2
  simp [results, hr, e1, e2, asAddr, hv], h⟩
section
variable {P : Program} {n : Sh} {f : Fr}
theorem Pure.eqSN {x : Operand} {tx ty e : TypeId} {p : Option Addr} {m c : Nat} (hu : P.underlying tx = some (.slice e)) (hx : evo f x = some (.slice p m c)) : Pure P (.binOp .eql tx x (.const (.slice none 0 0)) ty) f (.bool p.isNone) := fun ρ hρ d ty' pos aft g w => by
 have h4 : ρ (.const (.slice none 0 0)) = .slice none 0 0 := hρ _ _ rfl
 simp [execOp, hρ _ _ hx, h4, eqGuard, Lib.run_eql_slice_nil w tx e p m c 0 0 hu]
/-- the address of an element of several cells -/
theorem Pure.ixm {tx e : TypeId} {x y : Operand} {p : Option Addr} {l c sz : Nat} {i : Int} {k : IntKind} (hu : P.underlying tx = some (.slice e)) (hs : ∀ w, (sizeOf e).run P w = .ok sz w) (hx : evo f x = some (.slice p l c))
  (hi : evo f y = some (.int k i)) (hp : p = some (pA p)) (j : Nat) (e' : i = j) (hj : j < l) : Pure P (.indexAddr tx x y) f (.pointer (some ((pA p).add (j * sz)))) :=
 Pure.ixa hu hs (by rw [hx]; rw [← hp]) hi j e' hj
theorem RowM.field {α : Type} {L : Lay α} {w : World} {p : Option Addr} {l : List α} (h : RowM L w p l) (k : Nat) (hk : k < l.length) (i : Nat) (hi : i < L.m) : w.cell? (((pA p).add (k * L.m)).add i) = (L.V l[k])[i]? := by
 rw [add_add]; exact h.cells k hk i hi
end
end
section
open Go.ChangeShapes Go.WideShapes Go.ChangeAt Go.RowKit
/-- what is known of a slice's length and room -/
structure SlOk {α : Type} (p : Option Addr) (l : List α) (c : Nat) : Prop where
 le : l.length ≤ c
 cap : c ≤ maxLen
 nil : l = [] → c = 0 ∨ p ≠ none
 none : p = none → l = [] ∧ c = 0
theorem SlOk.z {α : Type} : SlOk (α := α) Option.none [] 0 := ⟨Nat.le_refl _, by unfold maxLen; omega, fun _ => .inl rfl, fun _ => ⟨rfl, rfl⟩⟩
theorem list_choose {α : Type} (P : Nat → α → Prop) : ∀ n, (∀ i, i < n → ∃ o, P i o) → ∃ l : List α, l.length = n ∧ ∀ i (h : i < l.length), P i l[i]
  | 0, _ => ⟨[], rfl, fun i h => by simp at h⟩
  | n + 1, h => by
    obtain ⟨l, hl, hp⟩ := list_choose P n (fun i hi => h i oO)
    obtain ⟨o, ho⟩ := h n oO
    refine ⟨l ++ [o], by simp [hl], fun i hi => ?_⟩
    rw [List.length_append, List.length_singleton] at hi
    rcases Nat.lt_or_ge i l.length with h1 | h1
    · rw [List.getElem_append_left h1]; exact hp i h1
    · obtain rfl : i = l.length := by omega
      rw [List.getElem_append_right (Nat.le_refl _)]
      simp only [Nat.sub_self, List.getElem_cons_zero]
      rw [hl]; exact ho
abbrev intV (k : Int) : Value := .int .i64 k
end
section
open Go.ChangeShapes Go.WideShapes Go.ChangeAt Go.RowKit
structure PointV where
 fX : Int
 fY : Int
def pointV (x : PointV) : List Value := [.int .i64 x.fX, .int .i64 x.fY]
def pointL : Lay PointV := ⟨2, pointV, by decide, fun _ => rfl, fun x u hu => List.all_eq_true.1 (show (pointV x).all Value.oneCell' = true from rfl) u hu⟩
structure PointOk (w : World) (x : PointV) : Prop where
 wf_fX : (Lit.int .i64 x.fX).wf = true
 wf_fY : (Lit.int .i64 x.fY).wf = true
theorem PointOk.below {w w1 : World} {x : PointV} (h : PointOk w x) (hb : Below w.heap.size w w1) : PointOk w1 x :=
 ⟨h.wf_fX, h.wf_fY⟩
theorem PointOk.drew {w w1 : World} {x : PointV} (h : PointOk w x) (d : Drew w w1) : PointOk w1 x := h.below (d.below (Below.refl _ _))
theorem cells167 : Tryz.prog.cellsOf 167 = 2 := by kernel_rfl
theorem cells3 : Tryz.prog.cellsOf 3 = 1 := by kernel_rfl
set_option maxRecDepth 20000 in
theorem open_Point {H : Type} {enc : TypeId × Value → H} {w : World} {base : Nat} {sp : Nat → Bool} {held : Bool} {fuel : Nat} {cs : List Value} {x : DataW H × List MemPlace}
  (h : DataW.trod enc Tryz.prog w base sp held fuel 167 cs = some x) : ∃ o : PointV, cs = pointV o ∧ PointOk w o := by
 obtain ⟨xs, n, rfl, -, hl, hlen, hf⟩ := DataW.trod_struct underlying167 h
 rw [cells167] at hl
 have hlen2 : xs.length = 2 := hlen
 match cs, hl with
 | [c0, c1], _ =>
  have g : ∀ (i : Nat) (f : Field) (q : Nat) (c : List Value), _ → Tryz.prog.cellsOf f.type = q → (([c0, c1] : List Value).drop f.offset).take q = c → DataW.trod enc Tryz.prog w base sp held n f.type c = xs[i]? := fun i f q c h1 h2 h3 => by
   have := hf i f h1
   rw [h2, h3] at this
   exact this
  have f0 := (g 0 _ 1 [c0] rfl cells3 rfl).trans (List.getElem?_eq_getElem oO)
  obtain ⟨afX, efX, -, wfX⟩ := DataW.trod_int underlying3 f0
  have f1 := (g 1 _ 1 [c1] rfl cells3 rfl).trans (List.getElem?_eq_getElem oO)
  obtain ⟨afY, efY, -, wfY⟩ := DataW.trod_int underlying3 f1
  simp only [List.cons.injEq, and_true] at efX efY
  refine ⟨⟨afX, afY⟩, ?_, ⟨wfX, wfY⟩⟩
  rw [efX, efY]
  rfl
structure SegV where
 fKind : Int
 fP_0 : PointV
 fP_1 : PointV
 fP_2 : PointV
def segV (x : SegV) : List Value := [.int .i64 x.fKind] ++ pointV x.fP_0 ++ pointV x.fP_1 ++ pointV x.fP_2
def segL : Lay SegV := ⟨7, segV, by decide, fun _ => rfl, fun x u hu => List.all_eq_true.1 (show (segV x).all Value.oneCell' = true from rfl) u hu⟩
structure SegOk (w : World) (x : SegV) : Prop where
 wf_fKind : (Lit.int .i64 x.fKind).wf = true
 ok_fP_0 : PointOk w x.fP_0
 ok_fP_1 : PointOk w x.fP_1
 ok_fP_2 : PointOk w x.fP_2
theorem SegOk.below {w w1 : World} {x : SegV} (h : SegOk w x) (hb : Below w.heap.size w w1) : SegOk w1 x :=
 ⟨h.wf_fKind, h.ok_fP_0.below hb, h.ok_fP_1.below hb, h.ok_fP_2.below hb⟩
theorem SegOk.drew {w w1 : World} {x : SegV} (h : SegOk w x) (d : Drew w w1) : SegOk w1 x := h.below (d.below (Below.refl _ _))
theorem cells170 : Tryz.prog.cellsOf 170 = 7 := by kernel_rfl
theorem cells168 : Tryz.prog.cellsOf 168 = 6 := by kernel_rfl
set_option maxRecDepth 20000 in
theorem open_Seg {H : Type} {enc : TypeId × Value → H} {w : World} {base : Nat} {sp : Nat → Bool} {held : Bool} {fuel : Nat} {cs : List Value} {x : DataW H × List MemPlace}
  (h : DataW.trod enc Tryz.prog w base sp held fuel 170 cs = some x) : ∃ o : SegV, cs = segV o ∧ SegOk w o := by
 obtain ⟨xs, n, rfl, -, hl, hlen, hf⟩ := DataW.trod_struct underlying170 h
 rw [cells170] at hl
 have hlen2 : xs.length = 2 := hlen
 match cs, hl with
 | [c0, c1, c2, c3, c4, c5, c6], _ =>
  have g : ∀ (i : Nat) (f : Field) (q : Nat) (c : List Value), _ → Tryz.prog.cellsOf f.type = q → (([c0, c1, c2, c3, c4, c5, c6] : List Value).drop f.offset).take q = c → DataW.trod enc Tryz.prog w base sp held n f.type c = xs[i]? := fun i f q c h1 h2 h3 => by
   have := hf i f h1
   rw [h2, h3] at this
   exact this
  have f0 := (g 0 _ 1 [c0] rfl cells3 rfl).trans (List.getElem?_eq_getElem oO)
  obtain ⟨afKind, efKind, -, wfKind⟩ := DataW.trod_int underlying3 f0
  have f1 := (g 1 _ 6 [c1, c2, c3, c4, c5, c6] rfl cells168 rfl).trans (List.getElem?_eq_getElem oO)
  obtain ⟨xz1, mz1, rfl, -, -, hlz1, hfz1⟩ := DataW.trod_array underlying168 f1
  rw [cells167] at hfz1
  have yz1_0 := (show DataW.trod enc Tryz.prog w base sp held _ 167 [c1, c2] = _ from hfz1 0 dD).trans (List.getElem?_eq_getElem oO)
  obtain ⟨afP_0, efP_0, wfP_0⟩ := open_Point yz1_0
  have yz1_1 := (show DataW.trod enc Tryz.prog w base sp held _ 167 [c3, c4] = _ from hfz1 1 dD).trans (List.getElem?_eq_getElem oO)
  obtain ⟨afP_1, efP_1, wfP_1⟩ := open_Point yz1_1
  have yz1_2 := (show DataW.trod enc Tryz.prog w base sp held _ 167 [c5, c6] = _ from hfz1 2 dD).trans (List.getElem?_eq_getElem oO)
  obtain ⟨afP_2, efP_2, wfP_2⟩ := open_Point yz1_2
  simp only [List.cons.injEq, and_true] at efKind
  refine ⟨⟨afKind, afP_0, afP_1, afP_2⟩, ?_, ⟨wfKind, wfP_0, wfP_1, wfP_2⟩⟩
  show _ = ([.int .i64 afKind] : List Value) ++ pointV afP_0 ++ pointV afP_1 ++ pointV afP_2
  rw [← efP_0, ← efP_1, ← efP_2]
  rw [efKind]
  rfl
structure ColorV where
 fSpace : Int
 fPart_0 : Int
 fPart_1 : Int
 fPart_2 : Int
 fPart_3 : Int
def colorV (x : ColorV) : List Value := [.int .i64 x.fSpace, .int .i64 x.fPart_0, .int .i64 x.fPart_1, .int .i64 x.fPart_2, .int .i64 x.fPart_3]
def colorL : Lay ColorV := ⟨5, colorV, by decide, fun _ => rfl, fun x u hu => List.all_eq_true.1 (show (colorV x).all Value.oneCell' = true from rfl) u hu⟩
structure ColorOk (w : World) (x : ColorV) : Prop where
 wf_fSpace : (Lit.int .i64 x.fSpace).wf = true
 wf_fPart_0 : (Lit.int .i64 x.fPart_0).wf = true
 wf_fPart_1 : (Lit.int .i64 x.fPart_1).wf = true
 wf_fPart_2 : (Lit.int .i64 x.fPart_2).wf = true
 wf_fPart_3 : (Lit.int .i64 x.fPart_3).wf = true
theorem ColorOk.below {w w1 : World} {x : ColorV} (h : ColorOk w x) (hb : Below w.heap.size w w1) : ColorOk w1 x :=
 ⟨h.wf_fSpace, h.wf_fPart_0, h.wf_fPart_1, h.wf_fPart_2, h.wf_fPart_3⟩
theorem ColorOk.drew {w w1 : World} {x : ColorV} (h : ColorOk w x) (d : Drew w w1) : ColorOk w1 x := h.below (d.below (Below.refl _ _))
theorem cells80 : Tryz.prog.cellsOf 80 = 5 := by kernel_rfl
theorem cells78 : Tryz.prog.cellsOf 78 = 4 := by kernel_rfl
set_option maxRecDepth 20000 in
theorem open_Color {H : Type} {enc : TypeId × Value → H} {w : World} {base : Nat} {sp : Nat → Bool} {held : Bool} {fuel : Nat} {cs : List Value} {x : DataW H × List MemPlace}
  (h : DataW.trod enc Tryz.prog w base sp held fuel 80 cs = some x) : ∃ o : ColorV, cs = colorV o ∧ ColorOk w o := by
 obtain ⟨xs, n, rfl, -, hl, hlen, hf⟩ := DataW.trod_struct underlying80 h
 rw [cells80] at hl
 have hlen2 : xs.length = 2 := hlen
 match cs, hl with
 | [c0, c1, c2, c3, c4], _ =>
  have g : ∀ (i : Nat) (f : Field) (q : Nat) (c : List Value), _ → Tryz.prog.cellsOf f.type = q → (([c0, c1, c2, c3, c4] : List Value).drop f.offset).take q = c → DataW.trod enc Tryz.prog w base sp held n f.type c = xs[i]? := fun i f q c h1 h2 h3 => by
   have := hf i f h1
   rw [h2, h3] at this
   exact this
  have f0 := (g 0 _ 1 [c0] rfl cells3 rfl).trans (List.getElem?_eq_getElem oO)
  obtain ⟨afSpace, efSpace, -, wfSpace⟩ := DataW.trod_int underlying3 f0
  have f1 := (g 1 _ 4 [c1, c2, c3, c4] rfl cells78 rfl).trans (List.getElem?_eq_getElem oO)
  obtain ⟨xz1, mz1, rfl, -, -, hlz1, hfz1⟩ := DataW.trod_array underlying78 f1
  rw [cells3] at hfz1
  have yz1_0 := (show DataW.trod enc Tryz.prog w base sp held _ 3 [c1] = _ from hfz1 0 dD).trans (List.getElem?_eq_getElem oO)
  obtain ⟨afPart_0, efPart_0, -, wfPart_0⟩ := DataW.trod_int underlying3 yz1_0
  have yz1_1 := (show DataW.trod enc Tryz.prog w base sp held _ 3 [c2] = _ from hfz1 1 dD).trans (List.getElem?_eq_getElem oO)
  obtain ⟨afPart_1, efPart_1, -, wfPart_1⟩ := DataW.trod_int underlying3 yz1_1
  have yz1_2 := (show DataW.trod enc Tryz.prog w base sp held _ 3 [c3] = _ from hfz1 2 dD).trans (List.getElem?_eq_getElem oO)
  obtain ⟨afPart_2, efPart_2, -, wfPart_2⟩ := DataW.trod_int underlying3 yz1_2
  have yz1_3 := (show DataW.trod enc Tryz.prog w base sp held _ 3 [c4] = _ from hfz1 3 dD).trans (List.getElem?_eq_getElem oO)
  obtain ⟨afPart_3, efPart_3, -, wfPart_3⟩ := DataW.trod_int underlying3 yz1_3
  simp only [List.cons.injEq, and_true] at efSpace efPart_0 efPart_1 efPart_2 efPart_3
  refine ⟨⟨afSpace, afPart_0, afPart_1, afPart_2, afPart_3⟩, ?_, ⟨wfSpace, wfPart_0, wfPart_1, wfPart_2, wfPart_3⟩⟩
  rw [efSpace, efPart_0, efPart_1, efPart_2, efPart_3]
  rfl
structure ClipV where
 pfPath : Option Addr
 fPath : List SegV
 cfPath : Nat
 fEvenOdd : Bool
def clipV (x : ClipV) : List Value := [.slice x.pfPath x.fPath.length x.cfPath, .bool x.fEvenOdd]
def clipL : Lay ClipV := ⟨2, clipV, by decide, fun _ => rfl, fun x u hu => List.all_eq_true.1 (show (clipV x).all Value.oneCell' = true from rfl) u hu⟩
structure ClipOk (w : World) (x : ClipV) : Prop where
 row_fPath : RowM segL w x.pfPath x.fPath
 sl_fPath : SlOk x.pfPath x.fPath x.cfPath
 all_fPath : ∀ y ∈ x.fPath, SegOk w y
theorem ClipOk.below {w w1 : World} {x : ClipV} (h : ClipOk w x) (hb : Below w.heap.size w w1) : ClipOk w1 x :=
 ⟨h.row_fPath.below hb (fun h0 => h.row_fPath.lt h0), h.sl_fPath, fun y hy => (h.all_fPath y hy).below hb⟩
theorem ClipOk.drew {w w1 : World} {x : ClipV} (h : ClipOk w x) (d : Drew w w1) : ClipOk w1 x := h.below (d.below (Below.refl _ _))
theorem cells89 : Tryz.prog.cellsOf 89 = 2 := by kernel_rfl
theorem cells77 : Tryz.prog.cellsOf 77 = 1 := by kernel_rfl
theorem cells4 : Tryz.prog.cellsOf 4 = 1 := by kernel_rfl
structure PenV where
 fWidth : Int
 fCap : Int
 fJoin : Int
 fMiter : Int
 pfDash : Option Addr
 fDash : List Int
 cfDash : Nat
 fPhase : Int
def penV (x : PenV) : List Value := [.int .i64 x.fWidth, .int .i64 x.fCap, .int .i64 x.fJoin, .int .i64 x.fMiter, .slice x.pfDash x.fDash.length x.cfDash, .int .i64 x.fPhase]
def penL : Lay PenV := ⟨6, penV, by decide, fun _ => rfl, fun x u hu => List.all_eq_true.1 (show (penV x).all Value.oneCell' = true from rfl) u hu⟩
structure PenOk (w : World) (x : PenV) : Prop where
 wf_fWidth : (Lit.int .i64 x.fWidth).wf = true
 wf_fCap : (Lit.int .i64 x.fCap).wf = true
 wf_fJoin : (Lit.int .i64 x.fJoin).wf = true
 wf_fMiter : (Lit.int .i64 x.fMiter).wf = true
 row_fDash : RowAt intV w x.pfDash x.fDash
 sl_fDash : SlOk x.pfDash x.fDash x.cfDash
 wfs_fDash : ∀ y ∈ x.fDash, (Lit.int .i64 y).wf = true
 wf_fPhase : (Lit.int .i64 x.fPhase).wf = true
theorem PenOk.below {w w1 : World} {x : PenV} (h : PenOk w x) (hb : Below w.heap.size w w1) : PenOk w1 x :=
 ⟨h.wf_fWidth, h.wf_fCap, h.wf_fJoin, h.wf_fMiter, h.row_fDash.below hb (fun h0 => h.row_fDash.lt h0), h.sl_fDash, h.wfs_fDash, h.wf_fPhase⟩
theorem PenOk.drew {w w1 : World} {x : PenV} (h : PenOk w x) (d : Drew w w1) : PenOk w1 x := h.below (d.below (Below.refl _ _))
theorem cells84 : Tryz.prog.cellsOf 84 = 6 := by kernel_rfl
theorem cells82 : Tryz.prog.cellsOf 82 = 1 := by kernel_rfl
structure ItemV where
 fKind : Int
 pfPath : Option Addr
 fPath : List SegV
 cfPath : Nat
 fColor : ColorV
 pfClips : Option Addr
 fClips : List ClipV
 cfClips : Nat
 fPen : PenV
 fFont : Int
 fMatrix_0 : Int
 fMatrix_1 : Int
 fMatrix_2 : Int
 fMatrix_3 : Int
 fMatrix_4 : Int
 fMatrix_5 : Int
 pfBytes : Option Addr
 fBytes : List UInt8
 cfBytes : Nat
def itemV (x : ItemV) : List Value := [.int .i64 x.fKind, .slice x.pfPath x.fPath.length x.cfPath] ++ colorV x.fColor ++ [.slice x.pfClips x.fClips.length x.cfClips] ++ penV x.fPen ++ [.int .i64 x.fFont, .int .i64 x.fMatrix_0, .int .i64 x.fMatrix_1, .int .i64 x.fMatrix_2, .int .i64 x.fMatrix_3, .int .i64 x.fMatrix_4, .int .i64 x.fMatrix_5, .slice x.pfBytes x.fBytes.length x.cfBytes]
def itemL : Lay ItemV := ⟨22, itemV, by decide, fun _ => rfl, fun x u hu => List.all_eq_true.1 (show (itemV x).all Value.oneCell' = true from rfl) u hu⟩
structure ItemOk (w : World) (x : ItemV) : Prop where
 wf_fKind : (Lit.int .i64 x.fKind).wf = true
 row_fPath : RowM segL w x.pfPath x.fPath
 sl_fPath : SlOk x.pfPath x.fPath x.cfPath
 all_fPath : ∀ y ∈ x.fPath, SegOk w y
 ok_fColor : ColorOk w x.fColor
 row_fClips : RowM clipL w x.pfClips x.fClips
 sl_fClips : SlOk x.pfClips x.fClips x.cfClips
 all_fClips : ∀ y ∈ x.fClips, ClipOk w y
 ok_fPen : PenOk w x.fPen
 wf_fFont : (Lit.int .i64 x.fFont).wf = true
 wf_fMatrix_0 : (Lit.int .i64 x.fMatrix_0).wf = true
 wf_fMatrix_1 : (Lit.int .i64 x.fMatrix_1).wf = true
 wf_fMatrix_2 : (Lit.int .i64 x.fMatrix_2).wf = true
 wf_fMatrix_3 : (Lit.int .i64 x.fMatrix_3).wf = true
 wf_fMatrix_4 : (Lit.int .i64 x.fMatrix_4).wf = true
 wf_fMatrix_5 : (Lit.int .i64 x.fMatrix_5).wf = true
 row_fBytes : BytesAt w x.pfBytes x.fBytes
 sl_fBytes : SlOk x.pfBytes x.fBytes x.cfBytes
theorem ItemOk.below {w w1 : World} {x : ItemV} (h : ItemOk w x) (hb : Below w.heap.size w w1) : ItemOk w1 x :=
 ⟨h.wf_fKind, h.row_fPath.below hb (fun h0 => h.row_fPath.lt h0), h.sl_fPath, fun y hy => (h.all_fPath y hy).below hb, h.ok_fColor.below hb, h.row_fClips.below hb (fun h0 => h.row_fClips.lt h0), h.sl_fClips, fun y hy => (h.all_fClips y hy).below hb, h.ok_fPen.below hb, h.wf_fFont, h.wf_fMatrix_0, h.wf_fMatrix_1, h.wf_fMatrix_2, h.wf_fMatrix_3, h.wf_fMatrix_4, h.wf_fMatrix_5, h.row_fBytes.below hb (fun h0 => h.row_fBytes.lt h0), h.sl_fBytes⟩
theorem ItemOk.drew {w w1 : World} {x : ItemV} (h : ItemOk w x) (d : Drew w w1) : ItemOk w1 x := h.below (d.below (Below.refl _ _))
theorem cells87 : Tryz.prog.cellsOf 87 = 22 := by kernel_rfl
theorem cells81 : Tryz.prog.cellsOf 81 = 1 := by kernel_rfl
theorem cells85 : Tryz.prog.cellsOf 85 = 6 := by kernel_rfl
theorem cells5 : Tryz.prog.cellsOf 5 = 1 := by kernel_rfl
theorem cells22 : Tryz.prog.cellsOf 22 = 1 := by kernel_rfl
structure PageV where
 fWidth : Int
 fHeight : Int
 pfItems : Option Addr
 fItems : List ItemV
 cfItems : Nat
def pageV (x : PageV) : List Value := [.int .i64 x.fWidth, .int .i64 x.fHeight, .slice x.pfItems x.fItems.length x.cfItems]
def pageL : Lay PageV := ⟨3, pageV, by decide, fun _ => rfl, fun x u hu => List.all_eq_true.1 (show (pageV x).all Value.oneCell' = true from rfl) u hu⟩
structure PageOk (w : World) (x : PageV) : Prop where
 wf_fWidth : (Lit.int .i64 x.fWidth).wf = true
 wf_fHeight : (Lit.int .i64 x.fHeight).wf = true
 row_fItems : RowM itemL w x.pfItems x.fItems
 sl_fItems : SlOk x.pfItems x.fItems x.cfItems
 all_fItems : ∀ y ∈ x.fItems, ItemOk w y
theorem PageOk.below {w w1 : World} {x : PageV} (h : PageOk w x) (hb : Below w.heap.size w w1) : PageOk w1 x :=
 ⟨h.wf_fWidth, h.wf_fHeight, h.row_fItems.below hb (fun h0 => h.row_fItems.lt h0), h.sl_fItems, fun y hy => (h.all_fItems y hy).below hb⟩
theorem PageOk.drew {w w1 : World} {x : PageV} (h : PageOk w x) (d : Drew w w1) : PageOk w1 x := h.below (d.below (Below.refl _ _))
theorem cells76 : Tryz.prog.cellsOf 76 = 3 := by kernel_rfl
theorem cells74 : Tryz.prog.cellsOf 74 = 1 := by kernel_rfl
end
section
open Go.RowKit Go.WideShapes Go.ChangeShapes
section
variable {P : Program} {n : Sh} {f : Fr}
theorem run_callV {F : FuncId} (hb : HasBody P F) {ρ : Operand → Value} (hρ : Agr f ρ) {x : Operand} {first cap args : Array Value} (hf : evo f x = some (.func (.func F) first cap)) {xs : List Operand} {vs : List Value} (hx : evs f xs = some vs) (ha : first ++ vs.toArray ++ cap = args)
  {ats : Array TypeId} (d : Option Tmp) (ty : TypeId) (pos : String) (aft : Array Edge) (g : Option (Nat × Bool)) (w : World) :
  (execOp ρ ⟨d, .call ⟨.value x, xs.toArray, ats⟩, ty, pos, aft, g⟩).run P w = .ok (.enter F args) w := by
 obtain ⟨fn, h1, h2, h3⟩ := hb
 have e := evs_map hρ _ _ hx
 have hfn : ρ x = .func (.func F) first cap := hρ _ _ hf
 have hargs : xs.toArray.map ρ = vs.toArray := by simp [e]
 subst ha
 unfold execOp
 simp only [resolve, hargs, hfn]
 simp [Deferred.ofValue, invoke, callFunc, run_program, h1, h2, h3]
/-- a function value is called -/
theorem WL.callv {ops : Array Oper} {Q : Exit → Fr → World → Prop} {w : World} {rest : List Oper} {d ty : Nat} {pos : String} {aft : Array Edge} {F : FuncId} {x : Operand} {first cap args : Array Value} {xs : List Operand} {ats : Array TypeId} {vs : List Value} {α : Sort _}
  {V : α → Value} {S : α → World → Prop} (hb : HasBody P F) (hf : evo f x = some (.func (.func F) first cap)) (hx : evs f xs = some vs) (ha : first ++ vs.toArray ++ cap = args) (hd : Nat.blt d n.n = true)
  (hc : Calls P F args w fun e w' => ∃ t, e = .returned (V t) ∧ S t w') (k : ∀ t w', S t w' → WL P n ops Q rest ((d, V t) :: f) w') :
  WL P n ops Q (⟨some d, .call ⟨.value x, xs.toArray, ats⟩, ty, pos, aft, none⟩ :: rest) f w := by
 unfold WL at *
 intro a ha'
 refine wpList_plain rfl fun K hK => ?_
 unfold Oper.wp
 rw [run_callV hb ha'.agr hf hx ha, Oper.upon_enter]
 refine hc.mono ?_
 rintro e w' ⟨t, rfl, hS⟩
 exact hK _ _ (k t w' hS _ (ha'.put hd _))
theorem WL.cv1 {ops : Array Oper} {Q : Exit → Fr → World → Prop} {w : World} {rest : List Oper} {d ty : Nat} {pos : String} {aft : Array Edge} {F : FuncId} {x : Operand} {first cap args : Array Value} {xs : List Operand} {ats : Array TypeId} {vs : List Value}
  {V : Value} {S : World → Prop} (hb : HasBody P F) (hf : evo f x = some (.func (.func F) first cap)) (hx : evs f xs = some vs) (ha : first ++ vs.toArray ++ cap = args) (hd : Nat.blt d n.n = true)
  (hc : Calls P F args w fun e w' => e = .returned V ∧ S w') (k : ∀ w', S w' → WL P n ops Q rest ((d, V) :: f) w') :
  WL P n ops Q (⟨some d, .call ⟨.value x, xs.toArray, ats⟩, ty, pos, aft, none⟩ :: rest) f w :=
 WL.callv (α := Unit) (V := fun _ => V) (S := fun _ => S) hb hf hx ha hd (hc.mono fun _ _ h => ⟨(), h⟩) (fun _ => k)
/-- an array in memory, sliced -/
theorem Pure.sla {tx e : TypeId} {x : Operand} {p : Addr} {m sz : Nat} (hu : P.underlying tx = some (.array m e)) (hs : ∀ w, (sizeOf e).run P w = .ok sz w) (hx : evo f x = some (.pointer (some p))) :
  Pure P (.slice tx x none none none) f (.slice (some (if m = 0 then p else p.add (0 * sz))) m m) := fun ρ hρ d ty pos aft g w => by
 simp [execOp, Instr.sliceAt, Instr.sureAddr, Instr.sliceBounds, hρ _ _ hx, run_underlying hu, hs, Sem.run_bind]
theorem Pure.slaF {tx e : TypeId} {x y : Operand} {p : Addr} {m sz : Nat} {i : Int} (hu : P.underlying tx = some (.array m e)) (hs : ∀ w, (sizeOf e).run P w = .ok sz w) (hx : evo f x = some (.pointer (some p)))
  (hi : evo f y = some (.int .i64 i)) (a : Nat) (ei : i = a) (ham : a ≤ m) : Pure P (.slice tx x (some y) none none) f (.slice (some (if m = a then p else p.add (a * sz))) (m - a) (m - a)) := fun ρ hρ d ty pos aft g w => by
 subst ei
 simp [execOp, Instr.sliceAt, Instr.sureAddr, Instr.sliceBounds, run_sliceBound, hρ _ _ hx, hρ _ _ hi, run_underlying hu, hs, ham, Sem.run_bind]
theorem Pure.slaT {tx e : TypeId} {x z : Operand} {p : Addr} {m sz : Nat} {j : Int} (hu : P.underlying tx = some (.array m e)) (hs : ∀ w, (sizeOf e).run P w = .ok sz w) (hx : evo f x = some (.pointer (some p)))
  (hj : evo f z = some (.int .i64 j)) (b : Nat) (ej : j = b) (hbm : b ≤ m) : Pure P (.slice tx x none (some z) none) f (.slice (some (if m = 0 then p else p.add (0 * sz))) b m) := fun ρ hρ d ty pos aft g w => by
 subst ej
 simp [execOp, Instr.sliceAt, Instr.sureAddr, Instr.sliceBounds, run_sliceBound, hρ _ _ hx, hρ _ _ hj, run_underlying hu, hs, hbm, Sem.run_bind]
end
end
section
theorem mixed : Tryz.prog.follows .mixedOrders = true := by kernel_rfl
theorem hb3 : HasBody Tryz.prog 3 := hasBody func3 kR
theorem hb4 : HasBody Tryz.prog 4 := hasBody func4 kR
theorem hb5 : HasBody Tryz.prog 5 := hasBody func5 kR
theorem hb25 : HasBody Tryz.prog 25 := hasBody func25 kR
theorem hb26 : HasBody Tryz.prog 26 := hasBody func26 kR
theorem hb27 : HasBody Tryz.prog 27 := hasBody func27 kR
theorem hb28 : HasBody Tryz.prog 28 := hasBody func28 kR
theorem hb29 : HasBody Tryz.prog 29 := hasBody func29 kR
theorem hb37 : HasBody Tryz.prog 37 := hasBody func37 kR
theorem hb50 : HasBody Tryz.prog 50 := hasBody func50 kR
theorem hb51 : HasBody Tryz.prog 51 := hasBody func51 kR
theorem hb52 : HasBody Tryz.prog 52 := hasBody func52 kR
theorem hb53 : HasBody Tryz.prog 53 := hasBody func53 kR
theorem hb54 : HasBody Tryz.prog 54 := hasBody func54 kR
theorem hb55 : HasBody Tryz.prog 55 := hasBody func55 kR
theorem hb56 : HasBody Tryz.prog 56 := hasBody func56 kR
theorem hb57 : HasBody Tryz.prog 57 := hasBody func57 kR
theorem hb58 : HasBody Tryz.prog 58 := hasBody func58 kR
theorem hb62 : HasBody Tryz.prog 62 := hasBody func62 kR
theorem hb65 : HasBody Tryz.prog 65 := hasBody func65 kR
theorem hb82 : HasBody Tryz.prog 82 := hasBody func82 kR
theorem hb84 : HasBody Tryz.prog 84 := hasBody func84 kR
theorem hb86 : HasBody Tryz.prog 86 := hasBody func86 kR
theorem hb89 : HasBody Tryz.prog 89 := hasBody func89 kR
theorem hb90 : HasBody Tryz.prog 90 := hasBody func90 kR
theorem hb92 : HasBody Tryz.prog 92 := hasBody func92 kR
theorem hb93 : HasBody Tryz.prog 93 := hasBody func93 kR
theorem hb94 : HasBody Tryz.prog 94 := hasBody func94 kR
theorem hb95 : HasBody Tryz.prog 95 := hasBody func95 kR
theorem hb96 : HasBody Tryz.prog 96 := hasBody func96 kR
theorem hb97 : HasBody Tryz.prog 97 := hasBody func97 kR
theorem hb98 : HasBody Tryz.prog 98 := hasBody func98 kR
theorem hb99 : HasBody Tryz.prog 99 := hasBody func99 kR
theorem hb100 : HasBody Tryz.prog 100 := hasBody func100 kR
theorem hb101 : HasBody Tryz.prog 101 := hasBody func101 kR
theorem hb114 : HasBody Tryz.prog 114 := hasBody func114 kR
theorem hb116 : HasBody Tryz.prog 116 := hasBody func116 kR
theorem hb120 : HasBody Tryz.prog 120 := hasBody func120 kR
theorem hb121 : HasBody Tryz.prog 121 := hasBody func121 kR
theorem hb122 : HasBody Tryz.prog 122 := hasBody func122 kR
theorem hb123 : HasBody Tryz.prog 123 := hasBody func123 kR
theorem hb124 : HasBody Tryz.prog 124 := hasBody func124 kR
theorem hb125 : HasBody Tryz.prog 125 := hasBody func125 kR
theorem hb126 : HasBody Tryz.prog 126 := hasBody func126 kR
theorem hb127 : HasBody Tryz.prog 127 := hasBody func127 kR
theorem hb128 : HasBody Tryz.prog 128 := hasBody func128 kR
theorem hb129 : HasBody Tryz.prog 129 := hasBody func129 kR
theorem hb133 : HasBody Tryz.prog 133 := hasBody func133 kR
theorem hb134 : HasBody Tryz.prog 134 := hasBody func134 kR
theorem hb135 : HasBody Tryz.prog 135 := hasBody func135 kR
theorem hb136 : HasBody Tryz.prog 136 := hasBody func136 kR
theorem hb137 : HasBody Tryz.prog 137 := hasBody func137 kR
theorem hb138 : HasBody Tryz.prog 138 := hasBody func138 kR
theorem hb139 : HasBody Tryz.prog 139 := hasBody func139 kR
theorem hb140 : HasBody Tryz.prog 140 := hasBody func140 kR
theorem hb141 : HasBody Tryz.prog 141 := hasBody func141 kR
theorem hb142 : HasBody Tryz.prog 142 := hasBody func142 kR
theorem hb143 : HasBody Tryz.prog 143 := hasBody func143 kR
theorem hb144 : HasBody Tryz.prog 144 := hasBody func144 kR
theorem hb145 : HasBody Tryz.prog 145 := hasBody func145 kR
theorem hb179 : HasBody Tryz.prog 179 := hasBody func179 kR
theorem hb180 : HasBody Tryz.prog 180 := hasBody func180 kR
theorem hb181 : HasBody Tryz.prog 181 := hasBody func181 kR
theorem hb182 : HasBody Tryz.prog 182 := hasBody func182 kR
theorem hb187 : HasBody Tryz.prog 187 := hasBody func187 kR
theorem hb188 : HasBody Tryz.prog 188 := hasBody func188 kR
theorem hb189 : HasBody Tryz.prog 189 := hasBody func189 kR
theorem hb190 : HasBody Tryz.prog 190 := hasBody func190 kR
theorem hb191 : HasBody Tryz.prog 191 := hasBody func191 kR
theorem hb192 : HasBody Tryz.prog 192 := hasBody func192 kR
theorem hb193 : HasBody Tryz.prog 193 := hasBody func193 kR
theorem hb194 : HasBody Tryz.prog 194 := hasBody func194 kR
theorem hb195 : HasBody Tryz.prog 195 := hasBody func195 kR
theorem hb196 : HasBody Tryz.prog 196 := hasBody func196 kR
theorem hb197 : HasBody Tryz.prog 197 := hasBody func197 kR
theorem hb198 : HasBody Tryz.prog 198 := hasBody func198 kR
theorem hb199 : HasBody Tryz.prog 199 := hasBody func199 kR
theorem hb200 : HasBody Tryz.prog 200 := hasBody func200 kR
theorem hb230 : HasBody Tryz.prog 230 := hasBody func230 kR
theorem hb231 : HasBody Tryz.prog 231 := hasBody func231 kR
theorem hb232 : HasBody Tryz.prog 232 := hasBody func232 kR
theorem hb233 : HasBody Tryz.prog 233 := hasBody func233 kR
theorem isz76 : (Tryz.prog.info? 76).map (·.size) = some 3 := by kernel_rfl
theorem blt76 : Tryz.prog.built 76 = fun parts => Instr.fill (([(0, 1), (1, 1), (2, 1)] : List (Nat × Nat)).toArray[·]?) [Value.int .i64 0, Value.int .i64 0, Value.slice none 0 0].toArray parts := by kernel_rfl
theorem isz80 : (Tryz.prog.info? 80).map (·.size) = some 5 := by kernel_rfl
theorem isz84 : (Tryz.prog.info? 84).map (·.size) = some 6 := by kernel_rfl
theorem blt84 : Tryz.prog.built 84 = fun parts => Instr.fill (([(0, 1), (1, 1), (2, 1), (3, 1), (4, 1), (5, 1)] : List (Nat × Nat)).toArray[·]?) [Value.int .i64 0, Value.int .i64 0, Value.int .i64 0, Value.int .i64 0, Value.slice none 0 0, Value.int .i64 0].toArray parts := by kernel_rfl
theorem isz87 : (Tryz.prog.info? 87).map (·.size) = some 22 := by kernel_rfl
theorem isz89 : (Tryz.prog.info? 89).map (·.size) = some 2 := by kernel_rfl
theorem blt89 : Tryz.prog.built 89 = fun parts => Instr.fill (([(0, 1), (1, 1)] : List (Nat × Nat)).toArray[·]?) [Value.slice none 0 0, Value.bool false].toArray parts := by kernel_rfl
theorem blt129 : Tryz.prog.built 129 = fun parts => Instr.fill (([(0, 1), (1, 1)] : List (Nat × Nat)).toArray[·]?) [Value.slice none 0 0, Value.bool false].toArray parts := by kernel_rfl
theorem eg167 : Tryz.prog.eqGuardType Tryz.prog.depth 167 = false := by kernel_rfl
theorem neA167 (a0 : Int) (a1 : Int) (b0 : Int) (b1 : Int) (w : World) : (binOp .neq 167 (.agg #[.int .i64 a0, .int .i64 a1]) (.agg #[.int .i64 b0, .int .i64 b1])).run Tryz.prog w = .ok (.bool (!decide (a0 = b0 ∧ a1 = b1))) w := by
 by_cases h0 : a0 = b0
 ·
  by_cases h1 : a1 = b1
  ·
   go_simp
  ·
   go_simp
 ·
  go_simp
theorem isz167 : (Tryz.prog.info? 167).map (·.size) = some 2 := by kernel_rfl
theorem blt167 : Tryz.prog.built 167 = fun parts => Instr.fill (([(0, 1), (1, 1)] : List (Nat × Nat)).toArray[·]?) [Value.int .i64 0, Value.int .i64 0].toArray parts := by kernel_rfl
theorem isz170 : (Tryz.prog.info? 170).map (·.size) = some 7 := by kernel_rfl
end
section
theorem scr_val {a b : Value} (h : a = b) : Ending.returned a = .returned b := by rw [h]
def idxI {α : Type} (q : α → Bool) (l : List α) : Int := if l.any q then (l.findIdx q : Int) else -1
theorem idxI_at {α : Type} {q : α → Bool} {l : List α} {i : Nat} (hi : i < l.length) (hn : ∀ j (h : j < l.length), j < i → q l[j] = false) (hq : q l[i] = true) : idxI q l = (i : Int) := by
 have h1 : l.any q = true := List.any_eq_true.2 ⟨_, List.getElem_mem hi, hq⟩
 have h2 : l.findIdx q = i := by
  refine (List.findIdx_eq hi).2 ⟨hq, fun j hj => ?_⟩
  exact hn j oO hj
 rw [idxI, if_pos h1, h2]
theorem idxI_no {α : Type} {q : α → Bool} {l : List α} (hn : ∀ j (h : j < l.length), q l[j] = false) : idxI q l = -1 := by
 have h1 : ¬ l.any q = true := fun h => by
  obtain ⟨x, hx, hq⟩ := List.any_eq_true.1 h
  obtain ⟨j, hj, rfl⟩ := List.mem_iff_getElem.1 hx
  rw [hn j hj] at hq; cases hq
 rw [idxI, if_neg h1]
theorem idxI_ge {α : Type} (q : α → Bool) (l : List α) : decide (idxI q l ≥ 0) = l.any q := by
 unfold idxI
 cases l.any q <;> simp
theorem lib_IndexPoint {F : FuncId} (hF : HasBody Tryz.prog F) (p : Option Addr) (l : List PointV) (c : Nat) (q : PointV → Bool) (w : World) (hr : RowM pointL w p l) (hl : l.length ≤ 9223372036854775807)
  (hq : ∀ j (h : j < l.length) w1, Below w.heap.size w w1 → Calls Tryz.prog F #[.agg (pointV l[j]).toArray] w1 fun e w' => e = .returned (.bool (q l[j])) ∧ Below w1.heap.size w1 w') :
  Calls Tryz.prog 233 #[.slice p l.length c, .func (.func F) #[] #[]] w fun e w' => e = .returned (.int .i64 (idxI q l)) ∧ Below w.heap.size w w' := by
 have hrlt : 0 < l.length → (pA p).block < w.heap.size := fun h0 => hr.lt h0
 refine W.enter func233 rfl ntmps233 (Nat.le_of_ble_eq_true rfl) ?_
 have hB0 := Below.refl (w.heap.size) w
 refine W.sr <| WL.z rfl rfl ?_
 refine W.seq <| W.sr <| WL.m rfl rfl <| WL.p (.lenS underlying227 rfl) rfl <| WL.m rfl rfl <| WL.nil <| ?_
 refine W.block ?_
 refine W.loop (α := Nat) (fun t => [(0, .slice p l.length c), (1, .func (.func F) #[] #[]), (7, .int .i64 (l.length : Int)), (8, .int .i64 (t : Int))]) (fun t w' => Below w.heap.size w w' ∧ RowM pointL w' p l ∧ t ≤ l.length ∧ ∀ j (h : j < l.length), j < t → q l[j] = false) (fun t => l.length - t) (0) ⟨rfl, rfl, rfl, rfl, trivial⟩ (⟨hB0, hr, Nat.zero_le _, fun j _ h => absurd h oO⟩) (fun t w1 hR => ?_)
 obtain ⟨i, rfl⟩ : ∃ i, i = t := ⟨t, rfl⟩
 obtain ⟨hT, hb1, hi, hno⟩ := hR
 refine W.sr <| WL.p (.lss rfl rfl) rfl <| WL.nil <| ?_
 refine W.seq <| W.cond rfl (fun h1 => ?_) (fun h1 => ?_)
 have h1' := dT h1
 refine W.skip <| W.seq <| W.block <| W.sr <| WL.m rfl rfl <| WL.z rfl rfl ?_
 refine W.sr <| WL.m rfl rfl <| WL.m rfl rfl <| WL.m rfl rfl <| WL.p (.ixm underlying227 sizeOf167 rfl rfl (hb1.isp oO) (i) (rfl) oO) rfl <| WL.r (Rd.ldS underlying167 rfl isz167 hb1 (i) oO rfl) rfl <| WL.cv1 hF rfl rfl rfl rfl (hq i oO _ hT) (fun w2 hw2 => ?_)
 have hv3 := RowM.below hb1 hw2 (fun h0 => hb1.lt h0)
 have hB4 := btr hT hw2
 refine WL.nil <| ?_
 refine W.cond rfl (fun h5 => ?_) (fun h5 => ?_)
 refine W.sr <| WL.m rfl rfl <| WL.z rfl rfl ?_
 refine W.ret (W.ret1 rfl rfl ?_)
 first
 | exact ⟨scr_val (congrArg _ (idxI_at oO hno aS).symm), hB4⟩
 | exact ⟨scr_val (congrArg _ (idxI_no (fun j h => hno j h oO)).symm), hB4⟩
 refine W.skip <| W.reg <| WL.p (.iis (((i + 1 : Nat) : Int)) (.add rfl rfl (i64w oO)) oO) rfl <| WL.m rfl rfl <| WL.nil <| ?_
 exact ⟨i + 1, ⟨rfl, rfl, rfl, rfl, trivial⟩, ⟨hB4, hv3, by ((try simp only) <;> omega), fun j h hj => by
  rcases Nat.lt_succ_iff_lt_or_eq.1 hj with h2 | rfl
  exact hno j h h2
  assumption⟩, by ((try simp only) <;> omega)⟩
 have h1' := dF h1
 refine W.exit <| W.sr <| WL.z rfl rfl ?_
 refine W.ret (W.ret1 rfl rfl ?_)
 first
 | exact ⟨scr_val (congrArg _ (idxI_at oO hno aS).symm), hT⟩
 | exact ⟨scr_val (congrArg _ (idxI_no (fun j h => hno j h oO)).symm), hT⟩
theorem lib_ContainsPoint {F : FuncId} (hF : HasBody Tryz.prog F) (p : Option Addr) (l : List PointV) (c : Nat) (q : PointV → Bool) (w : World) (hr : RowM pointL w p l) (hl : l.length ≤ 9223372036854775807)
  (hq : ∀ j (h : j < l.length) w1, Below w.heap.size w w1 → Calls Tryz.prog F #[.agg (pointV l[j]).toArray] w1 fun e w' => e = .returned (.bool (q l[j])) ∧ Below w1.heap.size w1 w') :
  Calls Tryz.prog 199 #[.slice p l.length c, .func (.func F) #[] #[]] w fun e w' => e = .returned (.bool (l.any q)) ∧ Below w.heap.size w w' := by
 refine W.enter func199 rfl ntmps199 (Nat.le_of_ble_eq_true rfl) ?_
 have hB0 := Below.refl (w.heap.size) w
 refine W.sr <| WL.z rfl rfl ?_
 refine W.sr <| WL.m rfl rfl <| WL.m rfl rfl <| WL.c1 hb233 rfl rfl ((lib_IndexPoint hF p l c q _ hr hl hq)) (fun w1 hw1 => ?_)
 have hB2 := btr hB0 hw1
 refine WL.p (.geq rfl rfl) rfl <| WL.z rfl rfl ?_
 refine W.ret (W.ret1 rfl rfl ?_)
 exact ⟨scr_val (congrArg _ (idxI_ge q l)), hB2⟩
theorem lib_IndexClip {F : FuncId} (hF : HasBody Tryz.prog F) (p : Option Addr) (l : List ClipV) (c : Nat) (q : ClipV → Bool) (w : World) (hr : RowM clipL w p l) (hl : l.length ≤ 9223372036854775807)
  (hq : ∀ j (h : j < l.length) w1, Below w.heap.size w w1 → Calls Tryz.prog F #[.agg (clipV l[j]).toArray] w1 fun e w' => e = .returned (.bool (q l[j])) ∧ Below w1.heap.size w1 w') :
  Calls Tryz.prog 230 #[.slice p l.length c, .func (.func F) #[] #[]] w fun e w' => e = .returned (.int .i64 (idxI q l)) ∧ Below w.heap.size w w' := by
 have hrlt : 0 < l.length → (pA p).block < w.heap.size := fun h0 => hr.lt h0
 refine W.enter func230 rfl ntmps230 (Nat.le_of_ble_eq_true rfl) ?_
 have hB0 := Below.refl (w.heap.size) w
 refine W.sr <| WL.z rfl rfl ?_
 refine W.seq <| W.sr <| WL.m rfl rfl <| WL.p (.lenS underlying81 rfl) rfl <| WL.m rfl rfl <| WL.nil <| ?_
 refine W.block ?_
 refine W.loop (α := Nat) (fun t => [(0, .slice p l.length c), (1, .func (.func F) #[] #[]), (7, .int .i64 (l.length : Int)), (8, .int .i64 (t : Int))]) (fun t w' => Below w.heap.size w w' ∧ RowM clipL w' p l ∧ t ≤ l.length ∧ ∀ j (h : j < l.length), j < t → q l[j] = false) (fun t => l.length - t) (0) ⟨rfl, rfl, rfl, rfl, trivial⟩ (⟨hB0, hr, Nat.zero_le _, fun j _ h => absurd h oO⟩) (fun t w1 hR => ?_)
 obtain ⟨i, rfl⟩ : ∃ i, i = t := ⟨t, rfl⟩
 obtain ⟨hT, hb1, hi, hno⟩ := hR
 refine W.sr <| WL.p (.lss rfl rfl) rfl <| WL.nil <| ?_
 refine W.seq <| W.cond rfl (fun h1 => ?_) (fun h1 => ?_)
 have h1' := dT h1
 refine W.skip <| W.seq <| W.block <| W.sr <| WL.m rfl rfl <| WL.z rfl rfl ?_
 refine W.sr <| WL.m rfl rfl <| WL.m rfl rfl <| WL.m rfl rfl <| WL.p (.ixm underlying81 sizeOf89 rfl rfl (hb1.isp oO) (i) (rfl) oO) rfl <| WL.r (Rd.ldS underlying89 rfl isz89 hb1 (i) oO rfl) rfl <| WL.cv1 hF rfl rfl rfl rfl (hq i oO _ hT) (fun w2 hw2 => ?_)
 have hv3 := RowM.below hb1 hw2 (fun h0 => hb1.lt h0)
 have hB4 := btr hT hw2
 refine WL.nil <| ?_
 refine W.cond rfl (fun h5 => ?_) (fun h5 => ?_)
 refine W.sr <| WL.m rfl rfl <| WL.z rfl rfl ?_
 refine W.ret (W.ret1 rfl rfl ?_)
 first
 | exact ⟨scr_val (congrArg _ (idxI_at oO hno aS).symm), hB4⟩
 | exact ⟨scr_val (congrArg _ (idxI_no (fun j h => hno j h oO)).symm), hB4⟩
 refine W.skip <| W.reg <| WL.p (.iis (((i + 1 : Nat) : Int)) (.add rfl rfl (i64w oO)) oO) rfl <| WL.m rfl rfl <| WL.nil <| ?_
 exact ⟨i + 1, ⟨rfl, rfl, rfl, rfl, trivial⟩, ⟨hB4, hv3, by ((try simp only) <;> omega), fun j h hj => by
  rcases Nat.lt_succ_iff_lt_or_eq.1 hj with h2 | rfl
  exact hno j h h2
  assumption⟩, by ((try simp only) <;> omega)⟩
 have h1' := dF h1
 refine W.exit <| W.sr <| WL.z rfl rfl ?_
 refine W.ret (W.ret1 rfl rfl ?_)
 first
 | exact ⟨scr_val (congrArg _ (idxI_at oO hno aS).symm), hT⟩
 | exact ⟨scr_val (congrArg _ (idxI_no (fun j h => hno j h oO)).symm), hT⟩
theorem lib_ContainsClip {F : FuncId} (hF : HasBody Tryz.prog F) (p : Option Addr) (l : List ClipV) (c : Nat) (q : ClipV → Bool) (w : World) (hr : RowM clipL w p l) (hl : l.length ≤ 9223372036854775807)
  (hq : ∀ j (h : j < l.length) w1, Below w.heap.size w w1 → Calls Tryz.prog F #[.agg (clipV l[j]).toArray] w1 fun e w' => e = .returned (.bool (q l[j])) ∧ Below w1.heap.size w1 w') :
  Calls Tryz.prog 190 #[.slice p l.length c, .func (.func F) #[] #[]] w fun e w' => e = .returned (.bool (l.any q)) ∧ Below w.heap.size w w' := by
 refine W.enter func190 rfl ntmps190 (Nat.le_of_ble_eq_true rfl) ?_
 have hB0 := Below.refl (w.heap.size) w
 refine W.sr <| WL.z rfl rfl ?_
 refine W.sr <| WL.m rfl rfl <| WL.m rfl rfl <| WL.c1 hb230 rfl rfl ((lib_IndexClip hF p l c q _ hr hl hq)) (fun w1 hw1 => ?_)
 have hB2 := btr hB0 hw1
 refine WL.p (.geq rfl rfl) rfl <| WL.z rfl rfl ?_
 refine W.ret (W.ret1 rfl rfl ?_)
 exact ⟨scr_val (congrArg _ (idxI_ge q l)), hB2⟩
theorem lib_IndexItem {F : FuncId} (hF : HasBody Tryz.prog F) (p : Option Addr) (l : List ItemV) (c : Nat) (q : ItemV → Bool) (w : World) (hr : RowM itemL w p l) (hl : l.length ≤ 9223372036854775807)
  (hq : ∀ j (h : j < l.length) w1, Below w.heap.size w w1 → Calls Tryz.prog F #[.agg (itemV l[j]).toArray] w1 fun e w' => e = .returned (.bool (q l[j])) ∧ Below w1.heap.size w1 w') :
  Calls Tryz.prog 139 #[.slice p l.length c, .func (.func F) #[] #[]] w fun e w' => e = .returned (.int .i64 (idxI q l)) ∧ Below w.heap.size w w' := by
 have hrlt : 0 < l.length → (pA p).block < w.heap.size := fun h0 => hr.lt h0
 refine W.enter func139 rfl ntmps139 (Nat.le_of_ble_eq_true rfl) ?_
 have hB0 := Below.refl (w.heap.size) w
 refine W.sr <| WL.z rfl rfl ?_
 refine W.seq <| W.sr <| WL.m rfl rfl <| WL.p (.lenS underlying74 rfl) rfl <| WL.m rfl rfl <| WL.nil <| ?_
 refine W.block ?_
 refine W.loop (α := Nat) (fun t => [(0, .slice p l.length c), (1, .func (.func F) #[] #[]), (7, .int .i64 (l.length : Int)), (8, .int .i64 (t : Int))]) (fun t w' => Below w.heap.size w w' ∧ RowM itemL w' p l ∧ t ≤ l.length ∧ ∀ j (h : j < l.length), j < t → q l[j] = false) (fun t => l.length - t) (0) ⟨rfl, rfl, rfl, rfl, trivial⟩ (⟨hB0, hr, Nat.zero_le _, fun j _ h => absurd h oO⟩) (fun t w1 hR => ?_)
 obtain ⟨i, rfl⟩ : ∃ i, i = t := ⟨t, rfl⟩
 obtain ⟨hT, hb1, hi, hno⟩ := hR
 refine W.sr <| WL.p (.lss rfl rfl) rfl <| WL.nil <| ?_
 refine W.seq <| W.cond rfl (fun h1 => ?_) (fun h1 => ?_)
 have h1' := dT h1
 refine W.skip <| W.seq <| W.block <| W.sr <| WL.m rfl rfl <| WL.z rfl rfl ?_
 refine W.sr <| WL.m rfl rfl <| WL.m rfl rfl <| WL.m rfl rfl <| WL.p (.ixm underlying74 sizeOf87 rfl rfl (hb1.isp oO) (i) (rfl) oO) rfl <| WL.r (Rd.ldS underlying87 rfl isz87 hb1 (i) oO rfl) rfl <| WL.cv1 hF rfl rfl rfl rfl (hq i oO _ hT) (fun w2 hw2 => ?_)
 have hv3 := RowM.below hb1 hw2 (fun h0 => hb1.lt h0)
 have hB4 := btr hT hw2
 refine WL.nil <| ?_
 refine W.cond rfl (fun h5 => ?_) (fun h5 => ?_)
 refine W.sr <| WL.m rfl rfl <| WL.z rfl rfl ?_
 refine W.ret (W.ret1 rfl rfl ?_)
 first
 | exact ⟨scr_val (congrArg _ (idxI_at oO hno aS).symm), hB4⟩
 | exact ⟨scr_val (congrArg _ (idxI_no (fun j h => hno j h oO)).symm), hB4⟩
 refine W.skip <| W.reg <| WL.p (.iis (((i + 1 : Nat) : Int)) (.add rfl rfl (i64w oO)) oO) rfl <| WL.m rfl rfl <| WL.nil <| ?_
 exact ⟨i + 1, ⟨rfl, rfl, rfl, rfl, trivial⟩, ⟨hB4, hv3, by ((try simp only) <;> omega), fun j h hj => by
  rcases Nat.lt_succ_iff_lt_or_eq.1 hj with h2 | rfl
  exact hno j h h2
  assumption⟩, by ((try simp only) <;> omega)⟩
 have h1' := dF h1
 refine W.exit <| W.sr <| WL.z rfl rfl ?_
 refine W.ret (W.ret1 rfl rfl ?_)
 first
 | exact ⟨scr_val (congrArg _ (idxI_at oO hno aS).symm), hT⟩
 | exact ⟨scr_val (congrArg _ (idxI_no (fun j h => hno j h oO)).symm), hT⟩
theorem lib_ContainsItem {F : FuncId} (hF : HasBody Tryz.prog F) (p : Option Addr) (l : List ItemV) (c : Nat) (q : ItemV → Bool) (w : World) (hr : RowM itemL w p l) (hl : l.length ≤ 9223372036854775807)
  (hq : ∀ j (h : j < l.length) w1, Below w.heap.size w w1 → Calls Tryz.prog F #[.agg (itemV l[j]).toArray] w1 fun e w' => e = .returned (.bool (q l[j])) ∧ Below w1.heap.size w1 w') :
  Calls Tryz.prog 98 #[.slice p l.length c, .func (.func F) #[] #[]] w fun e w' => e = .returned (.bool (l.any q)) ∧ Below w.heap.size w w' := by
 refine W.enter func98 rfl ntmps98 (Nat.le_of_ble_eq_true rfl) ?_
 have hB0 := Below.refl (w.heap.size) w
 refine W.sr <| WL.z rfl rfl ?_
 refine W.sr <| WL.m rfl rfl <| WL.m rfl rfl <| WL.c1 hb139 rfl rfl ((lib_IndexItem hF p l c q _ hr hl hq)) (fun w1 hw1 => ?_)
 have hB2 := btr hB0 hw1
 refine WL.p (.geq rfl rfl) rfl <| WL.z rfl rfl ?_
 refine W.ret (W.ret1 rfl rfl ?_)
 exact ⟨scr_val (congrArg _ (idxI_ge q l)), hB2⟩
theorem lib_IndexPage {F : FuncId} (hF : HasBody Tryz.prog F) (p : Option Addr) (l : List PageV) (c : Nat) (q : PageV → Bool) (w : World) (hr : RowM pageL w p l) (hl : l.length ≤ 9223372036854775807)
  (hq : ∀ j (h : j < l.length) w1, Below w.heap.size w w1 → Calls Tryz.prog F #[.agg (pageV l[j]).toArray] w1 fun e w' => e = .returned (.bool (q l[j])) ∧ Below w1.heap.size w1 w') :
  Calls Tryz.prog 96 #[.slice p l.length c, .func (.func F) #[] #[]] w fun e w' => e = .returned (.int .i64 (idxI q l)) ∧ Below w.heap.size w w' := by
 have hrlt : 0 < l.length → (pA p).block < w.heap.size := fun h0 => hr.lt h0
 refine W.enter func96 rfl ntmps96 (Nat.le_of_ble_eq_true rfl) ?_
 have hB0 := Below.refl (w.heap.size) w
 refine W.sr <| WL.z rfl rfl ?_
 refine W.seq <| W.sr <| WL.m rfl rfl <| WL.p (.lenS underlying47 rfl) rfl <| WL.m rfl rfl <| WL.nil <| ?_
 refine W.block ?_
 refine W.loop (α := Nat) (fun t => [(0, .slice p l.length c), (1, .func (.func F) #[] #[]), (7, .int .i64 (l.length : Int)), (8, .int .i64 (t : Int))]) (fun t w' => Below w.heap.size w w' ∧ RowM pageL w' p l ∧ t ≤ l.length ∧ ∀ j (h : j < l.length), j < t → q l[j] = false) (fun t => l.length - t) (0) ⟨rfl, rfl, rfl, rfl, trivial⟩ (⟨hB0, hr, Nat.zero_le _, fun j _ h => absurd h oO⟩) (fun t w1 hR => ?_)
 obtain ⟨i, rfl⟩ : ∃ i, i = t := ⟨t, rfl⟩
 obtain ⟨hT, hb1, hi, hno⟩ := hR
 refine W.sr <| WL.p (.lss rfl rfl) rfl <| WL.nil <| ?_
 refine W.seq <| W.cond rfl (fun h1 => ?_) (fun h1 => ?_)
 have h1' := dT h1
 refine W.skip <| W.seq <| W.block <| W.sr <| WL.m rfl rfl <| WL.z rfl rfl ?_
 refine W.sr <| WL.m rfl rfl <| WL.m rfl rfl <| WL.m rfl rfl <| WL.p (.ixm underlying47 sizeOf76 rfl rfl (hb1.isp oO) (i) (rfl) oO) rfl <| WL.r (Rd.ldS underlying76 rfl isz76 hb1 (i) oO rfl) rfl <| WL.cv1 hF rfl rfl rfl rfl (hq i oO _ hT) (fun w2 hw2 => ?_)
 have hv3 := RowM.below hb1 hw2 (fun h0 => hb1.lt h0)
 have hB4 := btr hT hw2
 refine WL.nil <| ?_
 refine W.cond rfl (fun h5 => ?_) (fun h5 => ?_)
 refine W.sr <| WL.m rfl rfl <| WL.z rfl rfl ?_
 refine W.ret (W.ret1 rfl rfl ?_)
 first
 | exact ⟨scr_val (congrArg _ (idxI_at oO hno aS).symm), hB4⟩
 | exact ⟨scr_val (congrArg _ (idxI_no (fun j h => hno j h oO)).symm), hB4⟩
 refine W.skip <| W.reg <| WL.p (.iis (((i + 1 : Nat) : Int)) (.add rfl rfl (i64w oO)) oO) rfl <| WL.m rfl rfl <| WL.nil <| ?_
 exact ⟨i + 1, ⟨rfl, rfl, rfl, rfl, trivial⟩, ⟨hB4, hv3, by ((try simp only) <;> omega), fun j h hj => by
  rcases Nat.lt_succ_iff_lt_or_eq.1 hj with h2 | rfl
  exact hno j h h2
  assumption⟩, by ((try simp only) <;> omega)⟩
 have h1' := dF h1
 refine W.exit <| W.sr <| WL.z rfl rfl ?_
 refine W.ret (W.ret1 rfl rfl ?_)
 first
 | exact ⟨scr_val (congrArg _ (idxI_at oO hno aS).symm), hT⟩
 | exact ⟨scr_val (congrArg _ (idxI_no (fun j h => hno j h oO)).symm), hT⟩
theorem lib_ContainsPage {F : FuncId} (hF : HasBody Tryz.prog F) (p : Option Addr) (l : List PageV) (c : Nat) (q : PageV → Bool) (w : World) (hr : RowM pageL w p l) (hl : l.length ≤ 9223372036854775807)
  (hq : ∀ j (h : j < l.length) w1, Below w.heap.size w w1 → Calls Tryz.prog F #[.agg (pageV l[j]).toArray] w1 fun e w' => e = .returned (.bool (q l[j])) ∧ Below w1.heap.size w1 w') :
  Calls Tryz.prog 54 #[.slice p l.length c, .func (.func F) #[] #[]] w fun e w' => e = .returned (.bool (l.any q)) ∧ Below w.heap.size w w' := by
 refine W.enter func54 rfl ntmps54 (Nat.le_of_ble_eq_true rfl) ?_
 have hB0 := Below.refl (w.heap.size) w
 refine W.sr <| WL.z rfl rfl ?_
 refine W.sr <| WL.m rfl rfl <| WL.m rfl rfl <| WL.c1 hb96 rfl rfl ((lib_IndexPage hF p l c q _ hr hl hq)) (fun w1 hw1 => ?_)
 have hB2 := btr hB0 hw1
 refine WL.p (.geq rfl rfl) rfl <| WL.z rfl rfl ?_
 refine W.ret (W.ret1 rfl rfl ?_)
 exact ⟨scr_val (congrArg _ (idxI_ge q l)), hB2⟩
theorem lib_IndexInt {F : FuncId} (hF : HasBody Tryz.prog F) (p : Option Addr) (l : List Int) (c : Nat) (q : Int → Bool) (w : World) (hr : RowAt intV w p l) (hl : l.length ≤ 9223372036854775807)
  (hq : ∀ j (h : j < l.length) w1, Below w.heap.size w w1 → Calls Tryz.prog F #[.int .i64 l[j]] w1 fun e w' => e = .returned (.bool (q l[j])) ∧ Below w1.heap.size w1 w') :
  Calls Tryz.prog 231 #[.slice p l.length c, .func (.func F) #[] #[]] w fun e w' => e = .returned (.int .i64 (idxI q l)) ∧ Below w.heap.size w w' := by
 have hrlt : 0 < l.length → (pA p).block < w.heap.size := fun h0 => hr.lt h0
 refine W.enter func231 rfl ntmps231 (Nat.le_of_ble_eq_true rfl) ?_
 have hB0 := Below.refl (w.heap.size) w
 refine W.sr <| WL.z rfl rfl ?_
 refine W.seq <| W.sr <| WL.m rfl rfl <| WL.p (.lenS underlying82 rfl) rfl <| WL.m rfl rfl <| WL.nil <| ?_
 refine W.block ?_
 refine W.loop (α := Nat) (fun t => [(0, .slice p l.length c), (1, .func (.func F) #[] #[]), (7, .int .i64 (l.length : Int)), (8, .int .i64 (t : Int))]) (fun t w' => Below w.heap.size w w' ∧ RowAt intV w' p l ∧ t ≤ l.length ∧ ∀ j (h : j < l.length), j < t → q l[j] = false) (fun t => l.length - t) (0) ⟨rfl, rfl, rfl, rfl, trivial⟩ (⟨hB0, hr, Nat.zero_le _, fun j _ h => absurd h oO⟩) (fun t w1 hR => ?_)
 obtain ⟨i, rfl⟩ : ∃ i, i = t := ⟨t, rfl⟩
 obtain ⟨hT, hb1, hi, hno⟩ := hR
 refine W.sr <| WL.p (.lss rfl rfl) rfl <| WL.nil <| ?_
 refine W.seq <| W.cond rfl (fun h1 => ?_) (fun h1 => ?_)
 have h1' := dT h1
 refine W.skip <| W.seq <| W.block <| W.sr <| WL.m rfl rfl <| WL.z rfl rfl ?_
 refine W.sr <| WL.m rfl rfl <| WL.m rfl rfl <| WL.m rfl rfl <| WL.p (.ixb underlying82 sizeOf3 rfl rfl (hb1.isp oO) (i) (rfl) oO) rfl <| WL.r (Rd.ldc (isAgg3 _) rfl (hb1.cells (i) oO)) rfl <| WL.cv1 hF rfl rfl rfl rfl (hq i oO _ hT) (fun w2 hw2 => ?_)
 have hv3 := RowAt.below hb1 hw2 (fun h0 => hb1.lt h0)
 have hB4 := btr hT hw2
 refine WL.nil <| ?_
 refine W.cond rfl (fun h5 => ?_) (fun h5 => ?_)
 refine W.sr <| WL.m rfl rfl <| WL.z rfl rfl ?_
 refine W.ret (W.ret1 rfl rfl ?_)
 first
 | exact ⟨scr_val (congrArg _ (idxI_at oO hno aS).symm), hB4⟩
 | exact ⟨scr_val (congrArg _ (idxI_no (fun j h => hno j h oO)).symm), hB4⟩
 refine W.skip <| W.reg <| WL.p (.iis (((i + 1 : Nat) : Int)) (.add rfl rfl (i64w oO)) oO) rfl <| WL.m rfl rfl <| WL.nil <| ?_
 exact ⟨i + 1, ⟨rfl, rfl, rfl, rfl, trivial⟩, ⟨hB4, hv3, by ((try simp only) <;> omega), fun j h hj => by
  rcases Nat.lt_succ_iff_lt_or_eq.1 hj with h2 | rfl
  exact hno j h h2
  assumption⟩, by ((try simp only) <;> omega)⟩
 have h1' := dF h1
 refine W.exit <| W.sr <| WL.z rfl rfl ?_
 refine W.ret (W.ret1 rfl rfl ?_)
 first
 | exact ⟨scr_val (congrArg _ (idxI_at oO hno aS).symm), hT⟩
 | exact ⟨scr_val (congrArg _ (idxI_no (fun j h => hno j h oO)).symm), hT⟩
theorem lib_ContainsInt {F : FuncId} (hF : HasBody Tryz.prog F) (p : Option Addr) (l : List Int) (c : Nat) (q : Int → Bool) (w : World) (hr : RowAt intV w p l) (hl : l.length ≤ 9223372036854775807)
  (hq : ∀ j (h : j < l.length) w1, Below w.heap.size w w1 → Calls Tryz.prog F #[.int .i64 l[j]] w1 fun e w' => e = .returned (.bool (q l[j])) ∧ Below w1.heap.size w1 w') :
  Calls Tryz.prog 193 #[.slice p l.length c, .func (.func F) #[] #[]] w fun e w' => e = .returned (.bool (l.any q)) ∧ Below w.heap.size w w' := by
 refine W.enter func193 rfl ntmps193 (Nat.le_of_ble_eq_true rfl) ?_
 have hB0 := Below.refl (w.heap.size) w
 refine W.sr <| WL.z rfl rfl ?_
 refine W.sr <| WL.m rfl rfl <| WL.m rfl rfl <| WL.c1 hb231 rfl rfl ((lib_IndexInt hF p l c q _ hr hl hq)) (fun w1 hw1 => ?_)
 have hB2 := btr hB0 hw1
 refine WL.p (.geq rfl rfl) rfl <| WL.z rfl rfl ?_
 refine W.ret (W.ret1 rfl rfl ?_)
 exact ⟨scr_val (congrArg _ (idxI_ge q l)), hB2⟩
end
section
def sideB (n : Int) : Bool := decide (n ≥ 65536) && decide (n ≤ 943718400) && decide (n % 65536 = 0)
theorem sideB_eq (n : Int) (h : n ≥ 65536) : n.tmod 65536 = n % 65536 := Int.tmod_eq_emod_of_nonneg oO
theorem paint_side (n : Int) (w : World) : Calls Tryz.prog 97 #[.int .i64 n] w fun e w' => e = .returned (.bool (sideB n)) ∧ w = w' := by
 refine W.enter func97 rfl ntmps97 (Nat.le_of_ble_eq_true rfl) ?_
 refine W.sr <| WL.z rfl rfl ?_
 refine W.sr <| WL.m rfl rfl <| WL.p (.geq rfl rfl) rfl <| WL.m rfl rfl <| WL.gd rfl rfl rfl (fun g1 => ?_) (fun g1 => ?_)
 have g1' := dT g1
 refine WL.m rfl rfl <| WL.gy rfl rfl rfl g1 <| WL.p (.leq rfl rfl) rfl <| WL.p (.pkT rfl g1 rfl) rfl <| WL.m rfl rfl <| WL.gd rfl rfl rfl (fun g2 => ?_) (fun g2 => ?_)
 have g2' := dT g2
 refine WL.m rfl rfl <| WL.gy rfl rfl rfl g2 <| WL.p (.rem rfl rfl oO (Int.tmod_eq_emod_of_nonneg oO)) rfl <| WL.gy rfl rfl rfl g2 <| WL.p (.eql rfl rfl) rfl <| WL.p (.pkT rfl g2 rfl) rfl <| WL.z rfl rfl ?_
 refine W.ret (W.ret1 rfl rfl ?_)
 exact ⟨scr_val (by unfold sideB; have := sideB_eq n; simp_all <;> omega), rfl⟩
 have g2' := dF g2
 refine WL.gn rfl rfl rfl g2 <| WL.gn rfl rfl rfl g2 <| WL.p (.pkF rfl g2 rfl) rfl <| WL.z rfl rfl ?_
 refine W.ret (W.ret1 rfl rfl ?_)
 exact ⟨scr_val (by unfold sideB; have := sideB_eq n; simp_all <;> omega), rfl⟩
 have g1' := dF g1
 refine WL.gn rfl rfl rfl g1 <| WL.p (.pkF rfl g1 rfl) rfl <| WL.m rfl rfl <| WL.gn rfl rfl rfl rfl <| WL.gn rfl rfl rfl rfl <| WL.gn rfl rfl rfl rfl <| WL.p (.pkF rfl rfl rfl) rfl <| WL.z rfl rfl ?_
 refine W.ret (W.ret1 rfl rfl ?_)
 exact ⟨scr_val (by unfold sideB; have := sideB_eq n; simp_all <;> omega), rfl⟩
theorem ref_Side (n : Int) (w : World) : Calls Tryz.prog 89 #[.int .i64 n] w fun e w' => e = .returned (.bool (sideB n)) ∧ w = w' := by
 refine W.enter func89 rfl ntmps89 (Nat.le_of_ble_eq_true rfl) ?_
 refine W.sr <| WL.z rfl rfl ?_
 refine W.sr <| WL.m rfl rfl <| WL.p (.geq rfl rfl) rfl <| WL.m rfl rfl <| WL.gd rfl rfl rfl (fun g1 => ?_) (fun g1 => ?_)
 have g1' := dT g1
 refine WL.m rfl rfl <| WL.gy rfl rfl rfl g1 <| WL.p (.leq rfl rfl) rfl <| WL.p (.pkT rfl g1 rfl) rfl <| WL.m rfl rfl <| WL.gd rfl rfl rfl (fun g2 => ?_) (fun g2 => ?_)
 have g2' := dT g2
 refine WL.m rfl rfl <| WL.gy rfl rfl rfl g2 <| WL.p (.rem rfl rfl oO (Int.tmod_eq_emod_of_nonneg oO)) rfl <| WL.gy rfl rfl rfl g2 <| WL.p (.eql rfl rfl) rfl <| WL.p (.pkT rfl g2 rfl) rfl <| WL.z rfl rfl ?_
 refine W.ret (W.ret1 rfl rfl ?_)
 exact ⟨scr_val (by unfold sideB; have := sideB_eq n; simp_all <;> omega), rfl⟩
 have g2' := dF g2
 refine WL.gn rfl rfl rfl g2 <| WL.gn rfl rfl rfl g2 <| WL.p (.pkF rfl g2 rfl) rfl <| WL.z rfl rfl ?_
 refine W.ret (W.ret1 rfl rfl ?_)
 exact ⟨scr_val (by unfold sideB; have := sideB_eq n; simp_all <;> omega), rfl⟩
 have g1' := dF g1
 refine WL.gn rfl rfl rfl g1 <| WL.p (.pkF rfl g1 rfl) rfl <| WL.m rfl rfl <| WL.gn rfl rfl rfl rfl <| WL.gn rfl rfl rfl rfl <| WL.gn rfl rfl rfl rfl <| WL.p (.pkF rfl rfl rfl) rfl <| WL.z rfl rfl ?_
 refine W.ret (W.ret1 rfl rfl ?_)
 exact ⟨scr_val (by unfold sideB; have := sideB_eq n; simp_all <;> omega), rfl⟩
def fitsP (x : PointV) : Bool := fitsB x.fX && fitsB x.fY
def zeroP (x : PointV) : Bool := decide (x.fX = 0) && decide (x.fY = 0)
theorem ref_FitsPoint (x : PointV) (w : World) : Calls Tryz.prog 181 #[.agg (pointV x).toArray] w fun e w' => e = .returned (.bool (fitsP x)) ∧ Below w.heap.size w w' := by
 refine W.enter func181 rfl ntmps181 (Nat.le_of_ble_eq_true rfl) ?_
 have hB0 := Below.refl (w.heap.size) w
 refine W.sr <| WL.box rfl rfl (fun b1 wb1 eb1 hkb1 hub1 hsb1 => ?_)
 have hB2 := Upd.below hB0 (by rw [eb1]; exact hB0.size) hub1
 have hgeb1 : w.heap.size ≤ b1 := by rw [eb1]; exact hB0.size
 refine WL.z rfl rfl ?_
 refine W.sr <| WL.p (.fa underlying167 rfl sizeOf3 dD rfl) rfl <| WL.r (Rd.ld (isAgg3 _) rfl hkb1 rfl) rfl <| WL.c1 hb62 rfl rfl ((ref_Fits _ _)) (fun w3 hw3 => ?_)
 obtain rfl := hw3
 refine WL.m rfl rfl <| WL.gd rfl rfl rfl (fun g4 => ?_) (fun g4 => ?_)
 refine WL.p (.fa underlying167 rfl sizeOf3 dD rfl) rfl <| WL.gy rfl rfl rfl g4 <| WL.r (Rd.ld (isAgg3 _) rfl hkb1 rfl) rfl <| WL.gy rfl rfl rfl g4 <| WL.c1 hb62 rfl rfl ((ref_Fits _ _)) (fun w5 hw5 => ?_)
 obtain rfl := hw5
 refine WL.p (.pkT rfl g4 rfl) rfl <| WL.z rfl rfl ?_
 refine W.ret (W.ret1 rfl rfl ?_)
 exact ⟨scr_val (by unfold fitsP; simp_all), hB2⟩
 refine WL.gn rfl rfl rfl g4 <| WL.gn rfl rfl rfl g4 <| WL.p (.pkF rfl g4 rfl) rfl <| WL.z rfl rfl ?_
 refine W.ret (W.ret1 rfl rfl ?_)
 exact ⟨scr_val (by unfold fitsP; simp_all), hB2⟩
theorem path_fits1 (x : PointV) (w : World) : Calls Tryz.prog 232 #[.agg (pointV x).toArray] w fun e w' => e = .returned (.bool (!fitsP x)) ∧ Below w.heap.size w w' := by
 refine W.enter func232 rfl ntmps232 (Nat.le_of_ble_eq_true rfl) ?_
 have hB0 := Below.refl (w.heap.size) w
 refine W.sr <| WL.box rfl rfl (fun b1 wb1 eb1 hkb1 hub1 hsb1 => ?_)
 have hB2 := Upd.below hB0 (by rw [eb1]; exact hB0.size) hub1
 have hgeb1 : w.heap.size ≤ b1 := by rw [eb1]; exact hB0.size
 refine WL.z rfl rfl ?_
 refine W.sr <| WL.p (.fa underlying167 rfl sizeOf3 dD rfl) rfl <| WL.r (Rd.ld (isAgg3 _) rfl hkb1 rfl) rfl <| WL.c1 hb195 rfl rfl ((fix_Fits _ _)) (fun w3 hw3 => ?_)
 obtain rfl := hw3
 refine WL.p (.not rfl) rfl <| WL.m rfl rfl <| WL.gd rfl rfl rfl (fun g4 => ?_) (fun g4 => ?_)
 have g4' := (nF g4)
 refine WL.p (.fa underlying167 rfl sizeOf3 dD rfl) rfl <| WL.gy rfl rfl rfl (by rw [(nF g4)] <;> rfl) <| WL.r (Rd.ld (isAgg3 _) rfl hkb1 rfl) rfl <| WL.gy rfl rfl rfl (by rw [(nF g4)] <;> rfl) <| WL.c1 hb195 rfl rfl ((fix_Fits _ _)) (fun w5 hw5 => ?_)
 obtain rfl := hw5
 refine WL.gy rfl rfl rfl (by rw [(nF g4)] <;> rfl) <| WL.p (.not rfl) rfl <| WL.p (.pkF rfl (by rw [(nF g4)] <;> rfl) rfl) rfl <| WL.z rfl rfl ?_
 refine W.ret (W.ret1 rfl rfl ?_)
 exact ⟨scr_val (by unfold fitsP; simp_all), hB2⟩
 have g4' := (nT g4)
 refine WL.gn rfl rfl rfl (by rw [(nT g4)] <;> rfl) <| WL.gn rfl rfl rfl (by rw [(nT g4)] <;> rfl) <| WL.gn rfl rfl rfl (by rw [(nT g4)] <;> rfl) <| WL.p (.pkT rfl (by rw [(nT g4)] <;> rfl) rfl) rfl <| WL.z rfl rfl ?_
 refine W.ret (W.ret1 rfl rfl ?_)
 exact ⟨scr_val (by unfold fitsP; simp_all), hB2⟩
theorem path_Sound1 (x : PointV) (w : World) : Calls Tryz.prog 200 #[.agg (pointV x).toArray] w fun e w' => e = .returned (.bool (!zeroP x)) ∧ Below w.heap.size w w' := by
 refine W.enter func200 rfl ntmps200 (Nat.le_of_ble_eq_true rfl) ?_
 have hB0 := Below.refl (w.heap.size) w
 refine W.sr <| WL.box rfl rfl (fun b1 wb1 eb1 hkb1 hub1 hsb1 => ?_)
 have hB2 := Upd.below hB0 (by rw [eb1]; exact hB0.size) hub1
 have hgeb1 : w.heap.size ≤ b1 := by rw [eb1]; exact hB0.size
 refine WL.z rfl rfl ?_
 refine W.sr <| WL.r (Rd.ldA rfl hkb1 underlying167 rfl isz167) rfl <| ?_
 refine WL.p (.buildL (ps := _) blt167 rfl rfl rfl pZ) rfl ?_
 refine WL.p (.neAgg rfl rfl eg167 (neA167 _ _ _ _)) rfl <| WL.z rfl rfl ?_
 refine W.ret (W.ret1 rfl rfl ?_)
 exact ⟨scr_val (by unfold zeroP; simp_all), hB2⟩
def segN (k : Int) : Int := if k = 1 ∨ k = 2 then 1 else if k = 3 then 3 else if k = 4 then 0 else -1
theorem path_points (k : Int) (w : World) : Calls Tryz.prog 196 #[.int .i64 k] w fun e w' => e = .returned (.int .i64 (segN k)) ∧ w = w' := by
 refine W.enter func196 rfl ntmps196 (Nat.le_of_ble_eq_true rfl) ?_
 refine W.sr <| WL.z rfl rfl ?_
 refine W.seq <| W.sr <| WL.m rfl rfl <| WL.nil <| ?_
 refine W.block <| W.seq <| W.sr <| WL.p (.eql rfl rfl) rfl <| WL.z rfl rfl ?_
 refine W.cond rfl (fun h1 => ?_) (fun h1 => ?_)
 have h1' := dT h1
 refine W.skip <| W.condT rfl h1 ?_
 refine W.sr <| WL.z rfl rfl ?_
 refine W.ret (W.ret1 rfl rfl ?_)
 exact ⟨scr_val (by unfold segN; first | rw [if_pos (.inl aS)] | rw [if_pos (.inr aS)] | (rw [if_neg oO]; first | rw [if_pos aS] | (rw [if_neg oO]; first | rw [if_pos aS] | rw [if_neg oO]))), rfl⟩
 have h1' := dF h1
 refine W.reg <| WL.p (.eql rfl rfl) rfl <| WL.z rfl rfl ?_
 refine W.cond rfl (fun h2 => ?_) (fun h2 => ?_)
 have h2' := dT h2
 refine W.sr <| WL.z rfl rfl ?_
 refine W.ret (W.ret1 rfl rfl ?_)
 exact ⟨scr_val (by unfold segN; first | rw [if_pos (.inl aS)] | rw [if_pos (.inr aS)] | (rw [if_neg oO]; first | rw [if_pos aS] | (rw [if_neg oO]; first | rw [if_pos aS] | rw [if_neg oO]))), rfl⟩
 have h2' := dF h2
 refine W.sr <| WL.p (.eql rfl rfl) rfl <| WL.z rfl rfl ?_
 refine W.cond rfl (fun h3 => ?_) (fun h3 => ?_)
 have h3' := dT h3
 refine W.sr <| WL.z rfl rfl ?_
 refine W.ret (W.ret1 rfl rfl ?_)
 exact ⟨scr_val (by unfold segN; first | rw [if_pos (.inl aS)] | rw [if_pos (.inr aS)] | (rw [if_neg oO]; first | rw [if_pos aS] | (rw [if_neg oO]; first | rw [if_pos aS] | rw [if_neg oO]))), rfl⟩
 have h3' := dF h3
 refine W.sr <| WL.p (.eql rfl rfl) rfl <| WL.z rfl rfl ?_
 refine W.cond rfl (fun h4 => ?_) (fun h4 => ?_)
 have h4' := dT h4
 refine W.sr <| WL.z rfl rfl ?_
 refine W.ret (W.ret1 rfl rfl ?_)
 exact ⟨scr_val (by unfold segN; first | rw [if_pos (.inl aS)] | rw [if_pos (.inr aS)] | (rw [if_neg oO]; first | rw [if_pos aS] | (rw [if_neg oO]; first | rw [if_pos aS] | rw [if_neg oO]))), rfl⟩
 have h4' := dF h4
 refine W.skip <| W.sr <| WL.z rfl rfl ?_
 refine W.ret (W.ret1 rfl rfl ?_)
 exact ⟨scr_val (by unfold segN; first | rw [if_pos (.inl aS)] | rw [if_pos (.inr aS)] | (rw [if_neg oO]; first | rw [if_pos aS] | (rw [if_neg oO]; first | rw [if_pos aS] | rw [if_neg oO]))), rfl⟩
def folB (k last : Int) : Bool := if k = 1 then decide (last ≠ 1) else decide (last ≠ 0) && decide (last ≠ 4)
theorem path_follows (k last : Int) (w : World) : Calls Tryz.prog 197 #[.int .i64 k, .int .i64 last] w fun e w' => e = .returned (.bool (folB k last)) ∧ w = w' := by
 refine W.enter func197 rfl ntmps197 (Nat.le_of_ble_eq_true rfl) ?_
 refine W.sr <| WL.z rfl rfl ?_
 refine W.seq <| W.sr <| WL.m rfl rfl <| WL.p (.eql rfl rfl) rfl <| WL.nil <| ?_
 refine W.cond rfl (fun h1 => ?_) (fun h1 => ?_)
 have h1' := dT h1
 refine W.sr <| WL.m rfl rfl <| WL.p (.neq rfl rfl) rfl <| WL.z rfl rfl ?_
 refine W.ret (W.ret1 rfl rfl ?_)
 exact ⟨scr_val (by unfold folB; simp_all), rfl⟩
 have h1' := dF h1
 refine W.skip <| W.sr <| WL.m rfl rfl <| WL.p (.neq rfl rfl) rfl <| WL.m rfl rfl <| WL.gd rfl rfl rfl (fun g2 => ?_) (fun g2 => ?_)
 have g2' := ndT g2
 refine WL.m rfl rfl <| WL.gy rfl rfl rfl g2 <| WL.p (.neq rfl rfl) rfl <| WL.p (.pkT rfl g2 rfl) rfl <| WL.z rfl rfl ?_
 refine W.ret (W.ret1 rfl rfl ?_)
 exact ⟨scr_val (by unfold folB; simp_all), rfl⟩
 have g2' := ndF g2
 refine WL.gn rfl rfl rfl g2 <| WL.p (.pkF rfl g2 rfl) rfl <| WL.z rfl rfl ?_
 refine W.ret (W.ret1 rfl rfl ?_)
 exact ⟨scr_val (by unfold folB; simp_all), rfl⟩
theorem path_fits (p : Option Addr) (l : List PointV) (c : Nat) (w : World) (hr : RowM pointL w p l) (hl : l.length ≤ 9223372036854775807) :
  Calls Tryz.prog 198 #[.slice p l.length c] w fun e w' => e = .returned (.bool (l.all fitsP)) ∧ Below w.heap.size w w' := by
 refine W.enter func198 rfl ntmps198 (Nat.le_of_ble_eq_true rfl) ?_
 have hB0 := Below.refl (w.heap.size) w
 refine W.sr <| WL.z rfl rfl ?_
 refine W.sr <| WL.m rfl rfl <| WL.c1 hb199 rfl rfl ((lib_ContainsPoint hb232 p l c (fun x => !fitsP x) _ hr hl (fun j h w1 _ => path_fits1 _ _))) (fun w1 hw1 => ?_)
 have hB2 := btr hB0 hw1
 refine WL.p (.not rfl) rfl <| WL.z rfl rfl ?_
 refine W.ret (W.ret1 rfl rfl ?_)
 exact ⟨scr_val (by rw [List.all_eq_not_any_not]), hB2⟩
end
section
theorem seg_row {w : World} {b : Nat} {t : TypeId} {s : SegV} (h : Blk w b (segV s).toArray t) (a : Nat) (ha : a ≤ 3) :
  RowM pointL w (some (if 3 = a then (⟨b, 1, none⟩ : Addr) else (⟨b, 1, none⟩ : Addr).add (a * 2))) ([s.fP_0, s.fP_1, s.fP_2].drop a) := by
 refine RowM.of_flat (fun _ => rfl) fun k v hk => ?_
 have h1 : ∀ i, w.cell? ⟨b, 1 + i + k, none⟩ = ((segV s).drop (1 + i))[k]? := fun i => by rw [h.cell, List.getElem?_drop]; simp
 obtain rfl | rfl | rfl | rfl : a = 0 ∨ a = 1 ∨ a = 2 ∨ a = 3 := by omega
 ·
  show w.cell? (((⟨b, 1, none⟩ : Addr).add (0 * 2)).add k) = _
  rw [add_lit, add_lit, h1]; exact hk
 ·
  show w.cell? (((⟨b, 1, none⟩ : Addr).add (1 * 2)).add k) = _
  rw [add_lit, add_lit, h1]; exact hk
 ·
  show w.cell? (((⟨b, 1, none⟩ : Addr).add (2 * 2)).add k) = _
  rw [add_lit, add_lit, h1]; exact hk
 ·
  simp [Lay.flat] at hk
def segB (s : SegV) (last : Int) : Bool := decide (0 ≤ segN s.fKind) && folB s.fKind last && [s.fP_0, s.fP_1, s.fP_2].all fitsP && ([s.fP_0, s.fP_1, s.fP_2].drop (segN s.fKind).toNat).all zeroP
def segsB : Int → List SegV → Bool
 | _, [] => true
 | k, s :: r => segB s k && segsB s.fKind r
def pathB (l : List SegV) : Bool := decide (l.length ≤ 4096) && segsB 0 l
theorem segN_le (k : Int) : segN k ≤ 3 := by unfold segN; split; decide; split; decide; split <;> decide
theorem segsB_step (k : Int) (l : List SegV) (i : Nat) (h : i < l.length) : segsB k (l.drop i) = (segB l[i] k && segsB l[i].fKind (l.drop (i + 1))) := by rw [List.drop_eq_getElem_cons h]; rfl
theorem segB_not {s : SegV} {k : Int} : (!segB s k) = (decide (segN s.fKind < 0) || !folB s.fKind k || ![s.fP_0, s.fP_1, s.fP_2].all fitsP || ([s.fP_0, s.fP_1, s.fP_2].drop (segN s.fKind).toNat).any fun x => !zeroP x) := by
 have e : decide (segN s.fKind < 0) = !decide (0 ≤ segN s.fKind) := by rw [Bool.eq_iff_iff]; simp
 have e2 : (([s.fP_0, s.fP_1, s.fP_2].drop (segN s.fKind).toNat).any fun x => !zeroP x) = !([s.fP_0, s.fP_1, s.fP_2].drop (segN s.fKind).toNat).all zeroP := by rw [List.all_eq_not_any_not, Bool.not_not]
 unfold segB
 rw [e, e2]
 cases decide (0 ≤ segN s.fKind) <;> cases folB s.fKind k <;> cases [s.fP_0, s.fP_1, s.fP_2].all fitsP <;> rfl
theorem path_Sound (p : Option Addr) (l : List SegV) (c : Nat) (w : World) (hr : RowM segL w p l) (hl : l.length ≤ 9223372036854775807) :
  Calls Tryz.prog 144 #[.slice p l.length c] w fun e w' => e = .returned (.bool (pathB l)) ∧ Below w.heap.size w w' := by
 have hrlt : 0 < l.length → (pA p).block < w.heap.size := fun h0 => hr.lt h0
 refine W.enter func144 rfl ntmps144 (Nat.le_of_ble_eq_true rfl) ?_
 have hB0 := Below.refl (w.heap.size) w
 refine W.sr <| WL.z rfl rfl ?_
 refine W.seq <| W.sr <| WL.m rfl rfl <| WL.p (.lenS underlying77 rfl) rfl <| WL.p (.gtr rfl rfl) rfl <| WL.nil <| ?_
 refine W.cond rfl (fun h1 => ?_) (fun h1 => ?_)
 have h1' := dT h1
 refine W.sr <| WL.z rfl rfl ?_
 refine W.ret (W.ret1 rfl rfl ?_)
 first
 | exact ⟨scr_val (by unfold pathB; rw [decide_eq_false oO, Bool.false_and]), hB0⟩
 | exact ⟨scr_val (by unfold pathB; rw [← hz, hst, show segB l[i] k = false by simp_all, Bool.false_and, Bool.and_false]), hB0⟩
 | exact ⟨scr_val (by unfold pathB; rw [← hz, List.drop_eq_nil_of_le oO, decide_eq_true h4]; rfl), hB0⟩
 have h1' := dF h1
 have h4 : l.length ≤ 4096 := by omega
 refine W.skip <| W.sr <| WL.z rfl rfl ?_
 refine W.seq <| W.sr <| WL.m rfl rfl <| WL.p (.lenS underlying77 rfl) rfl <| WL.m rfl rfl <| WL.nil <| ?_
 refine W.block ?_
 refine W.loop (α := Nat × Int) (fun t => [(0, .slice p l.length c), (3, .int .i64 t.2), (10, .slice p l.length c), (11, .int .i64 (l.length : Int)), (12, .int .i64 (t.1 : Int))]) (fun t w' => Below w.heap.size w w' ∧ RowM segL w' p l ∧ t.1 ≤ l.length ∧ segsB t.2 (l.drop t.1) = segsB 0 l) (fun t => l.length - t.1) ((0, 0)) ⟨rfl, rfl, rfl, rfl, rfl, trivial⟩ (⟨hB0, hr, Nat.zero_le _, rfl⟩) (fun t w1 hR => ?_)
 obtain ⟨i, k⟩ := t
 obtain ⟨hT, hb1, hi, hz⟩ := hR
 simp only at hi hz ⊢
 refine W.sr <| WL.p (.lss rfl rfl) rfl <| WL.nil <| ?_
 refine W.seq <| W.cond rfl (fun h2 => ?_) (fun h2 => ?_)
 have h2' := dT h2
 have hil : i < l.length := by omega
 have hst := segsB_step k l i hil
 refine W.skip <| W.seq <| W.block <| W.sr <| WL.p (.ixm underlying77 sizeOf170 rfl rfl (hb1.isp oO) (i) (rfl) oO) rfl <| WL.r (Rd.ldS underlying170 rfl isz170 hb1 (i) oO rfl) rfl <| WL.alloc zeroValue170 rfl (fun b3 wb3 eb3 hkb3 hub3 hsb3 => ?_)
 have hvl5 := fun h0 => eb3 ▸ hb1.lt h0
 have hv4 := RowM.upd hb1 hub3 (fun h0 => Nat.ne_of_lt (hvl5 h0))
 have hB6 := Upd.below hT (by rw [eb3]; exact hT.size) hub3
 have hgeb3 : w.heap.size ≤ b3 := by rw [eb3]; exact hT.size
 refine WL.stL rfl rfl hkb3 isz170 rfl rfl (fun w7 hkw7 huw7 hsw7 => ?_)
 have hv8 := RowM.upd hv4 huw7 (fun h0 => Nat.ne_of_lt (hvl5 h0))
 have hB9 := Upd.below hB6 oO huw7
 refine WL.nil <| ?_
 refine W.sr <| WL.p (.fa underlying170 rfl sizeOf3 dD rfl) rfl <| WL.r (Rd.ld (isAgg3 _) rfl hkw7 rfl) rfl <| WL.c1 hb196 rfl rfl ((path_points _ _)) (fun w10 hw10 => ?_)
 obtain rfl := hw10
 refine WL.z rfl rfl ?_
 refine W.seq ?_
 refine W.cut (α := Unit) (fun t => [(0, .slice p l.length c), (3, .int .i64 k), (5, .pointer (some ⟨b3, 0, none⟩)), (10, .slice p l.length c), (11, .int .i64 (l.length : Int)), (12, .int .i64 (i : Int)), (39, .bool (!segB l[i] k))]) (fun t w' => Below w.heap.size w w' ∧ RowM segL w' p l ∧ Blk w' b3 (segV l[i]).toArray 170) ?_ (fun t w1 hR => ?_)
 have hn3 := segN_le l[i].fKind
 refine W.reg <| WL.m rfl rfl <| WL.p (.lss rfl rfl) rfl <| WL.m rfl rfl <| WL.gd rfl rfl rfl (fun g11 => ?_) (fun g11 => ?_)
 have g11' := dF g11
 refine WL.p (.fa underlying170 rfl sizeOf3 dD rfl) rfl <| WL.gy rfl rfl rfl g11 <| WL.r (Rd.ld (isAgg3 _) rfl hkw7 rfl) rfl <| WL.gy rfl rfl rfl g11 <| WL.m rfl rfl <| WL.gy rfl rfl rfl g11 <| WL.c1 hb197 rfl rfl ((path_follows _ _ _)) (fun w12 hw12 => ?_)
 obtain rfl := hw12
 refine WL.gy rfl rfl rfl g11 <| WL.p (.not rfl) rfl <| WL.p (.pkF rfl g11 rfl) rfl <| WL.m rfl rfl <| WL.gd rfl rfl rfl (fun g13 => ?_) (fun g13 => ?_)
 have g13' := (nF g13)
 refine WL.p (.fa underlying170 rfl sizeOf168 dD rfl) rfl <| WL.gy rfl rfl rfl (by rw [(nF g13)] <;> rfl) <| WL.p (.sla underlying168 sizeOf167 rfl) rfl <| WL.gy rfl rfl rfl (by rw [(nF g13)] <;> rfl) <| WL.c1 hb198 rfl rfl ((path_fits _ [l[i].fP_0, l[i].fP_1, l[i].fP_2] 3 _ (seg_row hkw7 0 dD) (by simp))) (fun w14 hw14 => ?_)
 have hk15 := hkw7.below hw14 hkw7.lt
 have hv16 := RowM.below hv8 hw14 (fun h0 => hv8.lt h0)
 have hB17 := btr hB9 hw14
 refine WL.gy rfl rfl rfl (by rw [(nF g13)] <;> rfl) <| WL.p (.not rfl) rfl <| WL.p (.pkF rfl (by rw [(nF g13)] <;> rfl) rfl) rfl <| WL.m rfl rfl <| WL.gd rfl rfl rfl (fun g18 => ?_) (fun g18 => ?_)
 have g18' := (nF g18)
 refine WL.p (.fa underlying170 rfl sizeOf168 dD rfl) rfl <| WL.gy rfl rfl rfl (by rw [(nF g18)] <;> rfl) <| WL.m rfl rfl <| WL.gy rfl rfl rfl (by rw [(nF g18)] <;> rfl) <| WL.p (.slaF underlying168 sizeOf167 rfl rfl ((segN l[i].fKind).toNat) oO oO) rfl <| WL.gy rfl rfl rfl (by rw [(nF g18)] <;> rfl) <| WL.c1 hb199 rfl rfl ((by have h := lib_ContainsPoint hb200 _ ([l[i].fP_0, l[i].fP_1, l[i].fP_2].drop (segN l[i].fKind).toNat) (3 - (segN l[i].fKind).toNat) (fun x => !zeroP x) _ (seg_row hk15 (segN l[i].fKind).toNat oO) (by rw [List.length_drop]; simp; omega) (fun j h w1 _ => path_Sound1 _ _); rw [List.length_drop] at h; exact h)) (fun w19 hw19 => ?_)
 have hk20 := hk15.below hw19 hk15.lt
 have hv21 := RowM.below hv16 hw19 (fun h0 => hv16.lt h0)
 have hB22 := btr hB17 hw19
 refine WL.p (.pkF rfl (by rw [(nF g18)] <;> rfl) rfl) rfl <| WL.nil <| ?_
 exact ⟨(), ⟨rfl, rfl, rfl, rfl, rfl, rfl, lk_b rfl (by rw [segB_not]; generalize List.all [(l[i]'hil).fP_0, (l[i]'hil).fP_1, (l[i]'hil).fP_2] fitsP = A at *; try generalize List.any (List.drop _ _) _ = B at *; first | (rw [decide_eq_false oO]; simp_all; done) | (rw [decide_eq_true oO]; simp_all; done)), trivial⟩, hB22, hv21, hk20⟩
 have g18' := (nT g18)
 refine WL.gn rfl rfl rfl (by rw [(nT g18)] <;> rfl) <| WL.gn rfl rfl rfl (by rw [(nT g18)] <;> rfl) <| WL.gn rfl rfl rfl (by rw [(nT g18)] <;> rfl) <| WL.p (.pkT rfl (by rw [(nT g18)] <;> rfl) rfl) rfl <| WL.nil <| ?_
 exact ⟨(), ⟨rfl, rfl, rfl, rfl, rfl, rfl, lk_b rfl (by rw [segB_not]; generalize List.all [(l[i]'hil).fP_0, (l[i]'hil).fP_1, (l[i]'hil).fP_2] fitsP = A at *; try generalize List.any (List.drop _ _) _ = B at *; first | (rw [decide_eq_false oO]; simp_all; done) | (rw [decide_eq_true oO]; simp_all; done)), trivial⟩, hB17, hv16, hk15⟩
 have g13' := (nT g13)
 refine WL.gn rfl rfl rfl (by rw [(nT g13)] <;> rfl) <| WL.gn rfl rfl rfl (by rw [(nT g13)] <;> rfl) <| WL.gn rfl rfl rfl (by rw [(nT g13)] <;> rfl) <| WL.p (.pkT rfl (by rw [(nT g13)] <;> rfl) rfl) rfl <| WL.m rfl rfl <| WL.gn rfl rfl rfl rfl <| WL.gn rfl rfl rfl rfl <| WL.gn rfl rfl rfl rfl <| WL.gn rfl rfl rfl rfl <| WL.p (.pkT rfl rfl rfl) rfl <| WL.nil <| ?_
 exact ⟨(), ⟨rfl, rfl, rfl, rfl, rfl, rfl, lk_b rfl (by rw [segB_not]; generalize List.all [(l[i]'hil).fP_0, (l[i]'hil).fP_1, (l[i]'hil).fP_2] fitsP = A at *; try generalize List.any (List.drop _ _) _ = B at *; first | (rw [decide_eq_false oO]; simp_all; done) | (rw [decide_eq_true oO]; simp_all; done)), trivial⟩, hB9, hv8, hkw7⟩
 have g11' := dT g11
 refine WL.gn rfl rfl rfl g11 <| WL.gn rfl rfl rfl g11 <| WL.gn rfl rfl rfl g11 <| WL.gn rfl rfl rfl g11 <| WL.p (.pkT rfl g11 rfl) rfl <| WL.m rfl rfl <| WL.gn rfl rfl rfl rfl <| WL.gn rfl rfl rfl rfl <| WL.gn rfl rfl rfl rfl <| WL.gn rfl rfl rfl rfl <| WL.p (.pkT rfl rfl rfl) rfl <| WL.m rfl rfl <| WL.gn rfl rfl rfl rfl <| WL.gn rfl rfl rfl rfl <| WL.gn rfl rfl rfl rfl <| WL.gn rfl rfl rfl rfl <| WL.p (.pkT rfl rfl rfl) rfl <| WL.nil <| ?_
 exact ⟨(), ⟨rfl, rfl, rfl, rfl, rfl, rfl, lk_b rfl (by rw [segB_not]; generalize List.all [(l[i]'hil).fP_0, (l[i]'hil).fP_1, (l[i]'hil).fP_2] fitsP = A at *; try generalize List.any (List.drop _ _) _ = B at *; first | (rw [decide_eq_false oO]; simp_all; done) | (rw [decide_eq_true oO]; simp_all; done)), trivial⟩, hB9, hv8, hkw7⟩
 obtain ⟨hj1, hj2, hj3⟩ := hR
 refine W.cond rfl (fun h23 => ?_) (fun h23 => ?_)
 refine W.sr <| WL.z rfl rfl ?_
 refine W.ret (W.ret1 rfl rfl ?_)
 first
 | exact ⟨scr_val (by unfold pathB; rw [decide_eq_false oO, Bool.false_and]), hj1⟩
 | exact ⟨scr_val (by unfold pathB; rw [← hz, hst, show segB l[i] k = false by simp_all, Bool.false_and, Bool.and_false]), hj1⟩
 | exact ⟨scr_val (by unfold pathB; rw [← hz, List.drop_eq_nil_of_le oO, decide_eq_true h4]; rfl), hj1⟩
 refine W.skip <| W.reg <| WL.p (.fa underlying170 rfl sizeOf3 dD rfl) rfl <| WL.r (Rd.ld (isAgg3 _) rfl hj3 rfl) rfl <| WL.z rfl rfl ?_
 refine W.reg <| WL.p (.iis (((i + 1 : Nat) : Int)) (.add rfl rfl (i64w oO)) oO) rfl <| WL.m rfl rfl <| WL.nil <| ?_
 exact ⟨(i + 1, l[i].fKind), ⟨rfl, rfl, rfl, rfl, rfl, trivial⟩, ⟨hj1, hj2, by ((try simp only) <;> omega), by rw [← hz, hst, show segB l[i] k = true by simp_all, Bool.true_and]⟩, by ((try simp only) <;> omega)⟩
 have h2' := dF h2
 refine W.exit <| W.sr <| WL.z rfl rfl ?_
 refine W.ret (W.ret1 rfl rfl ?_)
 first
 | exact ⟨scr_val (by unfold pathB; rw [decide_eq_false oO, Bool.false_and]), hT⟩
 | exact ⟨scr_val (by unfold pathB; rw [← hz, hst, show segB l[i] k = false by simp_all, Bool.false_and, Bool.and_false]), hT⟩
 | exact ⟨scr_val (by unfold pathB; rw [← hz, List.drop_eq_nil_of_le oO, decide_eq_true h4]; rfl), hT⟩
end
section
open Go.RowKit Go.WideShapes Go.ChangeShapes
theorem all_range_eqI : ∀ (xs ys : List Int), xs.length = ys.length → ((List.range xs.length).all fun i => xs.getD i 0 == ys.getD i 0) = (xs == ys)
 | [], [], _ => rfl
 | x :: xs, y :: ys, h => by
  have ih := all_range_eqI xs ys (by simpa using h)
  rw [List.length_cons, List.range_succ_eq_map, List.all_cons, List.all_map]
  simp only [List.getD_cons_zero, Function.comp_def, List.getD_cons_succ, ih]
  simp [List.cons_beq_cons]
 | [], _ :: _, h => by simp at h
 | _ :: _, [], h => by simp at h
def icell (n : Int) : Value := .int .i64 n
theorem run_equalIn_ints {P : Program} (w : World) (d : Nat) (t e : TypeId) (n : Nat) (ht : P.underlying t = some (.array n e)) (he : P.underlying e = some (.int .i64)) (hsz : ∀ w, (sizeOf e).run P w = .ok 1 w)
  (xs ys : List Int) (hx : xs.length = n) (hy : ys.length = n) :
  (Op.equalIn (d + 2) t (.agg (xs.map icell).toArray) (.agg (ys.map icell).toArray)).run P w = .ok (xs == ys) w := by
 rw [← all_range_eqI xs ys (hx.trans hy.symm), hx, List.range_eq_range', Op.equalIn]
 simp only [Sem.run_bind, run_underlying ht, Result.andThen_ok, hsz, Std.Legacy.Range.forIn_eq_forIn_range', Std.Legacy.Range.size, Nat.sub_zero, Nat.add_sub_cancel, Nat.div_one]
 have hl : ∀ i ∈ List.range' 0 n 1, i < n := fun i hi => by simpa using (List.mem_range'_1.1 hi).2
 generalize List.range' 0 n 1 = l at hl ⊢
 induction l with
 | nil => simp
 | cons i l ih =>
  have hi : i < n := hl i (by simp)
  have px : (part e (xs.map icell).toArray (i * 1)).run P w = .ok (icell (xs.getD i 0)) w := by
   simp [part, isAgg, run_underlying he, List.getD, List.getElem?_eq_getElem (show i < xs.length by omega)]
  have py : (part e (ys.map icell).toArray (i * 1)).run P w = .ok (icell (ys.getD i 0)) w := by
   simp [part, isAgg, run_underlying he, List.getD, List.getElem?_eq_getElem (show i < ys.length by omega)]
  have pe : (Op.equalIn (d + 1) e (icell (xs.getD i 0)) (icell (ys.getD i 0))).run P w = .ok (xs.getD i 0 == ys.getD i 0) w := by
   rw [icell, icell, run_equalIn_int w d e .i64 .i64 _ _ he]
  simp only [List.forIn_cons, Sem.run_bind, px, py, pe, Result.andThen_ok, List.all_cons]
  cases hb : (xs.getD i 0 == ys.getD i 0)
  ·
   simp
  ·
   simp only [Bool.not_true, Bool.false_eq_true, if_false, Sem.run_pure, Result.andThen_ok, Bool.true_and]
   exact ih fun j hj => hl j (by simp [hj])
theorem run_neq_ints {P : Program} (w : World) (t e : TypeId) (n : Nat) (ht : P.underlying t = some (.array n e)) (he : P.underlying e = some (.int .i64)) (hsz : ∀ w, (sizeOf e).run P w = .ok 1 w)
  (xs ys : List Int) (hx : xs.length = n) (hy : ys.length = n) :
  (binOp .neq t (.agg (xs.map icell).toArray) (.agg (ys.map icell).toArray)).run P w = .ok (.bool (!(xs == ys))) w := by
 rw [run_neq_struct, run_equalIn_ints w 9998 t e n ht he hsz xs ys hx hy]
 rfl
section
variable {P : Program} {n : Sh} {f : Fr}
/-- the address of an element of an array in memory -/
theorem Pure.ixr {tx e : TypeId} {x y : Operand} {p : Addr} {m sz : Nat} {i : Int} {k : IntKind} (hu : P.underlying tx = some (.array m e)) (hs : ∀ w, (sizeOf e).run P w = .ok sz w) (hx : evo f x = some (.pointer (some p)))
  (hi : evo f y = some (.int k i)) (j : Nat) (e' : i = j) (hj : j < m) : Pure P (.indexAddr tx x y) f (.pointer (some (p.add (j * sz)))) := fun ρ hρ d ty pos aft g w => by
 subst e'
 simp [execOp, Instr.indexAt, Instr.sureAddr, hρ _ _ hx, hρ _ _ hi, asIntOf, run_underlying hu, hs, hj]
theorem Pure.ixr1 {tx e : TypeId} {x y : Operand} {p : Addr} {m : Nat} {i : Int} {k : IntKind} (hu : P.underlying tx = some (.array m e)) (hs : ∀ w, (sizeOf e).run P w = .ok 1 w) (hx : evo f x = some (.pointer (some p)))
  (hi : evo f y = some (.int k i)) (j : Nat) (e' : i = j) (hj : j < m) : Pure P (.indexAddr tx x y) f (.pointer (some (p.add j))) := by
 have h := Pure.ixr (P := P) (f := f) hu hs hx hi j e' hj
 rwa [Nat.mul_one] at h
/-- an element of one cell of an array value -/
theorem Pure.ixv {tx e : TypeId} {x y : Operand} {cs : Array Value} {m : Nat} {i : Int} {k : IntKind} {v : Value} (hu : P.underlying tx = some (.array m e)) (ha : ∀ w, (isAgg e).run P w = .ok false w) (hs : ∀ w, (sizeOf e).run P w = .ok 1 w) (hx : evo f x = some (.agg cs))
  (hi : evo f y = some (.int k i)) (j : Nat) (e' : i = j) (hj : j < m) (hv : cs[j]? = some v) : Pure P (.index tx x y) f v := fun ρ hρ d ty pos aft g w => by
 subst e'
 simp [execOp, Instr.index, hρ _ _ hx, hρ _ _ hi, asIntOf, run_underlying hu, hs, hj, part, ha, hv]
/-- a struct or an array that is a part of a block -/
theorem Rd.ldF {α : Type} {L : Lay α} {t tb : TypeId} {x : Operand} {b o : Nat} {cs : Array Value} {w : World} {dd : TypeDesc} (hu : P.underlying t = some dd) (hdd : dd.isRow = true) (hi : (P.info? t).map (·.size) = some L.m) (hb : Blk w b cs tb) (y : α)
  (e : (cs.toList.drop o).take L.m = L.V y) (hx : evo f x = some (.pointer (some ⟨b, o, none⟩))) : Rd P (.load t x) f w (.agg (L.V y).toArray) := by
 have hr : RowM L w (some ⟨b, o, none⟩) [y] := by
  refine RowM.of_flat (fun _ => rfl) fun k v hk => ?_
  show w.cell? ((⟨b, o, none⟩ : Addr).add k) = _
  have hk' : (L.V y)[k]? = some v := by simpa [Lay.flat] using hk
  have hlt : k < L.m := by
   rcases Nat.lt_or_ge k L.m with h | h
   ·
    exact h
   ·
    rw [List.getElem?_eq_none (by rw [L.len]; exact h)] at hk'; cases hk'
  rw [add_lit, hb.cell, ← hk', ← e, List.getElem?_take_of_lt hlt, List.getElem?_drop]
  simp
 have h := Rd.ldS (P := P) (f := f) (x := x) hu hdd hi hr 0 (by simp) (by
  rw [hx]; show _ = some (Value.pointer (some ((⟨b, o, none⟩ : Addr).add (0 * L.m)))); rw [add_lit, Nat.zero_mul, Nat.add_zero])
 exact h
/-- a struct or an array that is a part of an element of a row -/
theorem Rd.ldG {α β : Type} {L : Lay α} {L' : Lay β} {t : TypeId} {x : Operand} {p : Option Addr} {l : List α} {w : World} {dd : TypeDesc} (hu : P.underlying t = some dd) (hdd : dd.isRow = true) (hi : (P.info? t).map (·.size) = some L'.m) (hb : RowM L w p l) (k : Nat) (hk : k < l.length) (o : Nat) (y : β)
  (e : ((L.V l[k]).drop o).take L'.m = L'.V y) (hx : evo f x = some (.pointer (some (((pA p).add (k * L.m)).add o)))) : Rd P (.load t x) f w (.agg (L'.V y).toArray) := by
 have hr : RowM L' w (some (((pA p).add (k * L.m)).add o)) [y] := by
  refine RowM.of_flat (fun _ => rfl) fun j v hj => ?_
  show w.cell? ((((pA p).add (k * L.m)).add o).add j) = _
  have hj' : (L'.V y)[j]? = some v := by simpa [Lay.flat] using hj
  have hlt : j < L'.m := by
   rcases Nat.lt_or_ge j L'.m with h | h
   ·
    exact h
   ·
    rw [List.getElem?_eq_none (by rw [L'.len]; exact h)] at hj'; cases hj'
  have hlo : o + j < L.m := by
   rcases Nat.lt_or_ge (o + j) L.m with h | h
   ·
    exact h
   ·
    rw [← e, List.getElem?_take_of_lt hlt, List.getElem?_drop, List.getElem?_eq_none (by rw [L.len]; exact h)] at hj'; cases hj'
  rw [add_add, hb.field k hk (o + j) hlo, ← hj', ← e, List.getElem?_take_of_lt hlt, List.getElem?_drop]
 have h := Rd.ldS (P := P) (f := f) (x := x) hu hdd hi hr 0 (by simp) (by
  rw [hx]; show _ = some (Value.pointer (some ((((pA p).add (k * L.m)).add o).add (0 * L'.m)))); rw [Nat.zero_mul, add_add, add_add, Nat.add_zero])
 exact h
end
end
section
def okP (s : SegV) (j : Nat) (hj : j < [s.fP_0, s.fP_1, s.fP_2].length) : Bool := fitsP ([s.fP_0, s.fP_1, s.fP_2][j]) && (decide ((j : Int) < segN s.fKind) || zeroP ([s.fP_0, s.fP_1, s.fP_2][j]))
theorem segN_cases (k : Int) : segN k = 0 ∨ segN k = 1 ∨ segN k = 3 ∨ segN k = -1 := by unfold segN; split; simp; split; simp; split <;> simp
theorem okP_no {s : SegV} {j : Nat} {k : Int} (hj : j < [s.fP_0, s.fP_1, s.fP_2].length) (h : okP s j hj = false) : segB s k = false := by
 have h0 := segN_cases s.fKind
 have hj' : j < 3 := hj
 unfold okP at h; unfold segB
 obtain rfl | rfl | rfl : j = 0 ∨ j = 1 ∨ j = 2 := by omega
 all_goals (rcases h0 with e | e | e | e <;> rw [e] at h ⊢ <;> simp at h ⊢ <;> (intros; simp_all))
theorem okP_all {s : SegV} {k : Int} (hn : 0 ≤ segN s.fKind) (h : ∀ j (hj : j < [s.fP_0, s.fP_1, s.fP_2].length), okP s j hj = true) : segB s k = folB s.fKind k := by
 have h0 := segN_cases s.fKind
 have a := h 0 (by simp); have b := h 1 (by simp); have c := h 2 (by simp)
 unfold okP at a b c; unfold segB
 rcases h0 with e | e | e | e <;> rw [e] at a b c hn ⊢ <;> simp at a b c hn ⊢ <;> simp_all
def lastK (l : List SegV) (i : Nat) : Int := if i = 0 then 0 else ((l[i - 1]?).map SegV.fKind).getD 0
theorem lastK_succ {l : List SegV} {i : Nat} (h : i < l.length) : lastK l (i + 1) = l[i].fKind := by unfold lastK; rw [if_neg oO]; simp [List.getElem?_eq_getElem h]
theorem lastK_pos {l : List SegV} {i : Nat} (h : i < l.length) (h0 : 0 < i) : lastK l i = (l[i - 1]'oO).fKind := by
 obtain ⟨j, rfl⟩ : ∃ j, i = j + 1 := ⟨i - 1, by omega⟩
 exact lastK_succ oO
theorem folB_eq (k last : Int) : folB k last = (!(decide (k = 1) && decide (last = 1)) && !(!decide (k = 1) && (decide (last = 0) || decide (last = 4)))) := by
 unfold folB; by_cases h : k = 1 <;> simp [h]
theorem seg_row0 {w : World} {b : Nat} {t : TypeId} {s : SegV} (h : Blk w b (segV s).toArray t) : RowM pointL w (some ⟨b, 1, none⟩) [s.fP_0, s.fP_1, s.fP_2] := seg_row h 0 dD
set_option maxHeartbeats 800000 in
theorem ref_SoundPath (p : Option Addr) (l : List SegV) (c : Nat) (w : World) (hr : RowM segL w p l) (hl : l.length ≤ 9223372036854775807) :
    Calls Tryz.prog 127 #[.slice p l.length c] w fun e w' => e = .returned (.bool (pathB l)) ∧ Below w.heap.size w w' := by
  have hrlt : 0 < l.length → (pA p).block < w.heap.size := fun h0 => hr.lt h0
  refine W.enter func127 rfl ntmps127 (Nat.le_of_ble_eq_true rfl) ?_
  have hB0 := Below.refl (w.heap.size) w
  refine W.sr <| WL.z rfl rfl ?_
  refine W.seq <| W.sr <| WL.m rfl rfl <| WL.p (.lenS underlying77 rfl) rfl <| WL.p (.gtr rfl rfl) rfl <| WL.nil <| ?_
  refine W.cond rfl (fun h1 => ?_) (fun h1 => ?_)
  · have h1' := dT h1
    refine W.sr <| WL.z rfl rfl ?_
    refine W.ret (W.ret1 rfl rfl ?_)
    first
    | exact ⟨scr_val (by unfold pathB; rw [decide_eq_false oO, Bool.false_and]), hB0⟩
    | exact ⟨scr_val (by unfold pathB; rw [← hz, hst, hseg, hfol]; first | (simp_all; done) | (simp_all <;> (intros; omega))), hB0⟩
    | exact ⟨scr_val (by unfold pathB; rw [← hz, hst, okP_no (k := lastK l i) hkl (by simp_all), Bool.false_and, Bool.and_false]), hB0⟩
    | exact ⟨scr_val (by
        have e : segN l[i].fKind = -1 := by unfold segN; rw [if_neg oO, if_neg oO, if_neg oO]
        unfold pathB; rw [← hz, hst]; unfold segB; rw [e]; simp), hB0⟩
    | exact ⟨scr_val (by unfold pathB; rw [← hz, List.drop_eq_nil_of_le oO, decide_eq_true h4]; rfl), hB0⟩
  have h1' := dF h1
  have h4 : l.length ≤ 4096 := by omega
  refine W.skip <| W.seq <| W.sr <| WL.z rfl rfl ?_
  refine W.block ?_
  refine W.loop (α := Nat) (fun t => [(0, .slice p l.length c), (3, .int .i64 (t : Int))]) (fun t w' => Below w.heap.size w w' ∧ RowM segL w' p l ∧ t ≤ l.length ∧ segsB (lastK l t) (l.drop t) = segsB 0 l) (fun t => l.length - t) (0) ⟨rfl, rfl, trivial⟩ (⟨hB0, hr, Nat.zero_le _, rfl⟩) (fun t w1 hR => ?_)
  obtain ⟨i, rfl⟩ : ∃ i, i = t := ⟨t, rfl⟩
  obtain ⟨hT, hb1, hi, hz⟩ := hR
  refine W.seq <| W.sr <| WL.m rfl rfl <| WL.m rfl rfl <| WL.p (.lenS underlying77 rfl) rfl <| WL.p (.lss rfl rfl) rfl <| WL.nil <| ?_
  refine W.cond rfl (fun h2 => ?_) (fun h2 => ?_)
  · have h2' := dT h2
    have hil : i < l.length := by omega
    have hst := segsB_step (lastK l i) l i hil
    refine W.skip <| W.seq <| W.block <| W.sr <| WL.m rfl rfl <| WL.m rfl rfl <| WL.p (.ixm underlying77 sizeOf170 rfl rfl (hb1.isp oO) (i) (rfl) oO) rfl <| WL.r (Rd.ldS underlying170 rfl isz170 hb1 (i) oO rfl) rfl <| WL.alloc zeroValue170 rfl (fun b3 wb3 eb3 hkb3 hub3 hsb3 => ?_)
    have hvl5 := fun h0 => eb3 ▸ hb1.lt h0
    have hv4 := RowM.upd hb1 hub3 (fun h0 => Nat.ne_of_lt (hvl5 h0))
    have hB6 := Upd.below hT (by rw [eb3]; exact hT.size) hub3
    have hgeb3 : w.heap.size ≤ b3 := by rw [eb3]; exact hT.size
    refine WL.stL rfl rfl hkb3 isz170 rfl rfl (fun w7 hkw7 huw7 hsw7 => ?_)
    have hv8 := RowM.upd hv4 huw7 (fun h0 => Nat.ne_of_lt (hvl5 h0))
    have hB9 := Upd.below hB6 oO huw7
    refine WL.nil <| ?_
    refine W.sr <| WL.z rfl rfl ?_
    refine W.cut (α := Unit) (fun t => [(0, .slice p l.length c), (3, .int .i64 (i : Int)), (4, .pointer (some ⟨b3, 0, none⟩)), (5, .int .i64 (segN l[i].fKind))]) (fun t w' => w7 = w' ∧ 0 ≤ segN l[i].fKind) ?_ (fun t w1 hR => ?_)
    refine W.sr <| WL.p (.fa underlying170 rfl sizeOf3 dD rfl) rfl <| WL.r (Rd.ld (isAgg3 _) rfl hkw7 rfl) rfl <| WL.nil <| ?_
    refine W.block <| W.seq <| W.sr <| WL.p (.eql rfl rfl) rfl <| WL.z rfl rfl ?_
    refine W.cond rfl (fun h10 => ?_) (fun h10 => ?_)
    · have h10' := dT h10
      refine W.skip <| W.condT rfl h10 ?_
      refine W.skip ?_
      first
      | (have e : segN l[i].fKind = 1 := by unfold segN; first | rw [if_pos (.inl aS)] | rw [if_pos (.inr aS)]
         exact ⟨(), ⟨rfl, rfl, rfl, lk_i rfl e.symm, trivial⟩, rfl, by omega⟩)
      | (have e : segN l[i].fKind = 3 := by unfold segN; rw [if_neg oO, if_pos aS]
         exact ⟨(), ⟨rfl, rfl, rfl, lk_i rfl e.symm, trivial⟩, rfl, by omega⟩)
      | (have e : segN l[i].fKind = 0 := by unfold segN; rw [if_neg oO, if_neg oO, if_pos aS]
         exact ⟨(), ⟨rfl, rfl, rfl, lk_i rfl e.symm, trivial⟩, rfl, by omega⟩)
    have h10' := dF h10
    refine W.reg <| WL.p (.eql rfl rfl) rfl <| WL.z rfl rfl ?_
    refine W.cond rfl (fun h11 => ?_) (fun h11 => ?_)
    · have h11' := dT h11
      refine W.skip ?_
      first
      | (have e : segN l[i].fKind = 1 := by unfold segN; first | rw [if_pos (.inl aS)] | rw [if_pos (.inr aS)]
         exact ⟨(), ⟨rfl, rfl, rfl, lk_i rfl e.symm, trivial⟩, rfl, by omega⟩)
      | (have e : segN l[i].fKind = 3 := by unfold segN; rw [if_neg oO, if_pos aS]
         exact ⟨(), ⟨rfl, rfl, rfl, lk_i rfl e.symm, trivial⟩, rfl, by omega⟩)
      | (have e : segN l[i].fKind = 0 := by unfold segN; rw [if_neg oO, if_neg oO, if_pos aS]
         exact ⟨(), ⟨rfl, rfl, rfl, lk_i rfl e.symm, trivial⟩, rfl, by omega⟩)
    have h11' := dF h11
    refine W.sr <| WL.p (.eql rfl rfl) rfl <| WL.z rfl rfl ?_
    refine W.cond rfl (fun h12 => ?_) (fun h12 => ?_)
    · have h12' := dT h12
      refine W.reg <| WL.z rfl rfl ?_
      first
      | (have e : segN l[i].fKind = 1 := by unfold segN; first | rw [if_pos (.inl aS)] | rw [if_pos (.inr aS)]
         exact ⟨(), ⟨rfl, rfl, rfl, lk_i rfl e.symm, trivial⟩, rfl, by omega⟩)
      | (have e : segN l[i].fKind = 3 := by unfold segN; rw [if_neg oO, if_pos aS]
         exact ⟨(), ⟨rfl, rfl, rfl, lk_i rfl e.symm, trivial⟩, rfl, by omega⟩)
      | (have e : segN l[i].fKind = 0 := by unfold segN; rw [if_neg oO, if_neg oO, if_pos aS]
         exact ⟨(), ⟨rfl, rfl, rfl, lk_i rfl e.symm, trivial⟩, rfl, by omega⟩)
    have h12' := dF h12
    refine W.sr <| WL.p (.eql rfl rfl) rfl <| WL.z rfl rfl ?_
    refine W.cond rfl (fun h13 => ?_) (fun h13 => ?_)
    · have h13' := dT h13
      refine W.reg <| WL.z rfl rfl ?_
      first
      | (have e : segN l[i].fKind = 1 := by unfold segN; first | rw [if_pos (.inl aS)] | rw [if_pos (.inr aS)]
         exact ⟨(), ⟨rfl, rfl, rfl, lk_i rfl e.symm, trivial⟩, rfl, by omega⟩)
      | (have e : segN l[i].fKind = 3 := by unfold segN; rw [if_neg oO, if_pos aS]
         exact ⟨(), ⟨rfl, rfl, rfl, lk_i rfl e.symm, trivial⟩, rfl, by omega⟩)
      | (have e : segN l[i].fKind = 0 := by unfold segN; rw [if_neg oO, if_neg oO, if_pos aS]
         exact ⟨(), ⟨rfl, rfl, rfl, lk_i rfl e.symm, trivial⟩, rfl, by omega⟩)
    have h13' := dF h13
    refine W.sr <| WL.z rfl rfl ?_
    refine W.ret (W.ret1 rfl rfl ?_)
    first
    | exact ⟨scr_val (by unfold pathB; rw [decide_eq_false oO, Bool.false_and]), hB9⟩
    | exact ⟨scr_val (by unfold pathB; rw [← hz, hst, hseg, hfol]; first | (simp_all; done) | (simp_all <;> (intros; omega))), hB9⟩
    | exact ⟨scr_val (by unfold pathB; rw [← hz, hst, okP_no (k := lastK l i) hkl (by simp_all), Bool.false_and, Bool.and_false]), hB9⟩
    | exact ⟨scr_val (by
        have e : segN l[i].fKind = -1 := by unfold segN; rw [if_neg oO, if_neg oO, if_neg oO]
        unfold pathB; rw [← hz, hst]; unfold segB; rw [e]; simp), hB9⟩
    | exact ⟨scr_val (by unfold pathB; rw [← hz, List.drop_eq_nil_of_le oO, decide_eq_true h4]; rfl), hB9⟩
    obtain ⟨rfl, hn0⟩ := hR
    refine W.seq <| W.sr <| WL.z rfl rfl ?_
    refine W.block ?_
    refine W.loop (α := Nat) (fun t => [(0, .slice p l.length c), (3, .int .i64 (i : Int)), (4, .pointer (some ⟨b3, 0, none⟩)), (5, .int .i64 (segN l[i].fKind)), (6, .int .i64 (t : Int))]) (fun t w' => Below w.heap.size w w' ∧ RowM segL w' p l ∧ Blk w' b3 (segV l[i]).toArray 170 ∧ t ≤ 3 ∧ ∀ j (hj : j < [l[i].fP_0, l[i].fP_1, l[i].fP_2].length), j < t → okP l[i] j hj = true) (fun t => 3 - t) (0) ⟨rfl, rfl, rfl, rfl, rfl, trivial⟩ (⟨hB9, hv8, hkw7, by decide, fun j _ h => absurd h oO⟩) (fun t w1 hR => ?_)
    obtain ⟨k, rfl⟩ : ∃ k, k = t := ⟨t, rfl⟩
    obtain ⟨hT2, hb2, hk2, hk3, hall⟩ := hR
    refine W.seq <| W.sr <| WL.m rfl rfl <| WL.p (.lss rfl rfl) rfl <| WL.nil <| ?_
    refine W.cond rfl (fun h14 => ?_) (fun h14 => ?_)
    · have h14' := dT h14
      have hkl : k < [l[i].fP_0, l[i].fP_1, l[i].fP_2].length := by simp; omega
      refine W.skip <| W.seq <| W.block ?_
      refine W.cut (α := Unit) (fun t => [(0, .slice p l.length c), (3, .int .i64 (i : Int)), (4, .pointer (some ⟨b3, 0, none⟩)), (5, .int .i64 (segN l[i].fKind)), (6, .int .i64 (k : Int)), (60, .bool (!okP l[i] k hkl))]) (fun t w' => Below w.heap.size w w' ∧ RowM segL w' p l ∧ Blk w' b3 (segV l[i]).toArray 170) ?_ (fun t w1 hR => ?_)
      refine W.reg <| WL.m rfl rfl <| WL.p (.fa underlying170 rfl sizeOf168 dD rfl) rfl <| WL.p (.ixr underlying168 sizeOf167 rfl rfl (k) (rfl) oO) rfl <| WL.r (Rd.ldS underlying167 rfl isz167 (seg_row0 hk2) (k) oO rfl) rfl <| WL.c1 hb181 rfl rfl ((ref_FitsPoint ([l[i].fP_0, l[i].fP_1, l[i].fP_2][k]) _)) (fun w15 hw15 => ?_)
      have hk16 := hk2.below hw15 hk2.lt
      have hv17 := RowM.below hb2 hw15 (fun h0 => hb2.lt h0)
      have hB18 := btr hT2 hw15
      refine WL.p (.not rfl) rfl <| WL.m rfl rfl <| WL.gd rfl rfl rfl (fun g19 => ?_) (fun g19 => ?_)
      · have g19' := (nF g19)
        refine WL.m rfl rfl <| WL.gy rfl rfl rfl (by rw [(nF g19)] <;> rfl) <| WL.m rfl rfl <| WL.gy rfl rfl rfl (by rw [(nF g19)] <;> rfl) <| WL.p (.geq rfl rfl) rfl <| WL.gy rfl rfl rfl (by rw [(nF g19)] <;> rfl) <| WL.m rfl rfl <| WL.gd rfl rfl rfl (fun g20 => ?_) (fun g20 => ?_)
        · have g20' := dT g20
          refine WL.m rfl rfl <| WL.gy rfl rfl rfl g20 <| WL.p (.fa underlying170 rfl sizeOf168 dD rfl) rfl <| WL.gy rfl rfl rfl g20 <| WL.p (.ixr underlying168 sizeOf167 rfl rfl (k) (rfl) oO) rfl <| WL.gy rfl rfl rfl g20 <| WL.p (.fa underlying167 rfl sizeOf3 dD rfl) rfl <| WL.gy rfl rfl rfl g20 <| WL.r (Rd.ldc (isAgg3 _) rfl (((seg_row0 hk16).field (k) oO 0 dD).trans rfl)) rfl <| WL.gy rfl rfl rfl g20 <| WL.p (.neq rfl rfl) rfl <| WL.gy rfl rfl rfl g20 <| WL.m rfl rfl <| WL.gd rfl rfl rfl (fun g21 => ?_) (fun g21 => ?_)
          · have g21' := ndF g21
            refine WL.m rfl rfl <| WL.gy rfl rfl rfl g21 <| WL.p (.fa underlying170 rfl sizeOf168 dD rfl) rfl <| WL.gy rfl rfl rfl g21 <| WL.p (.ixr underlying168 sizeOf167 rfl rfl (k) (rfl) oO) rfl <| WL.gy rfl rfl rfl g21 <| WL.p (.fa underlying167 rfl sizeOf3 dD rfl) rfl <| WL.gy rfl rfl rfl g21 <| WL.r (Rd.ldc (isAgg3 _) rfl (((seg_row0 hk16).field (k) oO 1 dD).trans rfl)) rfl <| WL.gy rfl rfl rfl g21 <| WL.p (.neq rfl rfl) rfl <| WL.gy rfl rfl rfl g20 <| WL.p (.pkF rfl g21 rfl) rfl <| WL.gy rfl rfl rfl (by rw [(nF g19)] <;> rfl) <| WL.p (.pkT rfl g20 rfl) rfl <| WL.p (.pkF rfl (by rw [(nF g19)] <;> rfl) rfl) rfl <| WL.nil <| ?_
            exact ⟨(), ⟨rfl, rfl, rfl, rfl, rfl, lk_b rfl (by unfold okP zeroP; simp_all <;> omega), trivial⟩, hB18, hv17, hk16⟩
          have g21' := ndT g21
          refine WL.gn rfl rfl rfl g21 <| WL.gn rfl rfl rfl g21 <| WL.gn rfl rfl rfl g21 <| WL.gn rfl rfl rfl g21 <| WL.gn rfl rfl rfl g21 <| WL.gy rfl rfl rfl g20 <| WL.p (.pkT rfl g21 rfl) rfl <| WL.gy rfl rfl rfl (by rw [(nF g19)] <;> rfl) <| WL.p (.pkT rfl g20 rfl) rfl <| WL.p (.pkF rfl (by rw [(nF g19)] <;> rfl) rfl) rfl <| WL.nil <| ?_
          exact ⟨(), ⟨rfl, rfl, rfl, rfl, rfl, lk_b rfl (by unfold okP zeroP; simp_all <;> omega), trivial⟩, hB18, hv17, hk16⟩
        have g20' := dF g20
        refine WL.gn rfl rfl rfl g20 <| WL.gn rfl rfl rfl g20 <| WL.gn rfl rfl rfl g20 <| WL.gn rfl rfl rfl g20 <| WL.gn rfl rfl rfl g20 <| WL.gn rfl rfl rfl g20 <| WL.gu rfl rfl rfl <| WL.gu rfl rfl rfl <| WL.gu rfl rfl rfl <| WL.gu rfl rfl rfl <| WL.gu rfl rfl rfl <| WL.gu rfl rfl rfl <| WL.gn rfl rfl rfl g20 <| WL.gy rfl rfl rfl (by rw [(nF g19)] <;> rfl) <| WL.p (.pkF rfl g20 rfl) rfl <| WL.p (.pkF rfl (by rw [(nF g19)] <;> rfl) rfl) rfl <| WL.nil <| ?_
        exact ⟨(), ⟨rfl, rfl, rfl, rfl, rfl, lk_b rfl (by unfold okP zeroP; simp_all <;> omega), trivial⟩, hB18, hv17, hk16⟩
      have g19' := (nT g19)
      refine WL.gn rfl rfl rfl (by rw [(nT g19)] <;> rfl) <| WL.gn rfl rfl rfl (by rw [(nT g19)] <;> rfl) <| WL.gn rfl rfl rfl (by rw [(nT g19)] <;> rfl) <| WL.gu rfl rfl rfl <| WL.gu rfl rfl rfl <| WL.gu rfl rfl rfl <| WL.gu rfl rfl rfl <| WL.gu rfl rfl rfl <| WL.gu rfl rfl rfl <| WL.gu rfl rfl rfl <| WL.gu rfl rfl rfl <| WL.gu rfl rfl rfl <| WL.gu rfl rfl rfl <| WL.gu rfl rfl rfl <| WL.gu rfl rfl rfl <| WL.gu rfl rfl rfl <| WL.gu rfl rfl rfl <| WL.gn rfl rfl rfl (by rw [(nT g19)] <;> rfl) <| WL.p (.pkT rfl (by rw [(nT g19)] <;> rfl) rfl) rfl <| WL.nil <| ?_
      exact ⟨(), ⟨rfl, rfl, rfl, rfl, rfl, lk_b rfl (by unfold okP zeroP; simp_all <;> omega), trivial⟩, hB18, hv17, hk16⟩
      obtain ⟨hj1, hj2, hj3⟩ := hR
      refine W.cond rfl (fun h22 => ?_) (fun h22 => ?_)
      refine W.sr <| WL.z rfl rfl ?_
      refine W.ret (W.ret1 rfl rfl ?_)
      first
      | exact ⟨scr_val (by unfold pathB; rw [decide_eq_false oO, Bool.false_and]), hj1⟩
      | exact ⟨scr_val (by unfold pathB; rw [← hz, hst, hseg, hfol]; first | (simp_all; done) | (simp_all <;> (intros; omega))), hj1⟩
      | exact ⟨scr_val (by unfold pathB; rw [← hz, hst, okP_no (k := lastK l i) hkl (by simp_all), Bool.false_and, Bool.and_false]), hj1⟩
      | exact ⟨scr_val (by
          have e : segN l[i].fKind = -1 := by unfold segN; rw [if_neg oO, if_neg oO, if_neg oO]
          unfold pathB; rw [← hz, hst]; unfold segB; rw [e]; simp), hj1⟩
      | exact ⟨scr_val (by unfold pathB; rw [← hz, List.drop_eq_nil_of_le oO, decide_eq_true h4]; rfl), hj1⟩
      refine W.skip <| W.reg <| WL.m rfl rfl <| WL.p (.iis (((k + 1 : Nat) : Int)) (.add rfl rfl (i64w oO)) oO) rfl <| WL.z rfl rfl ?_
      exact ⟨k + 1, ⟨rfl, rfl, rfl, rfl, rfl, trivial⟩, ⟨hj1, hj2, hj3, by ((try simp only) <;> omega), fun j hj h => by
        rcases Nat.lt_succ_iff_lt_or_eq.1 h with h2 | rfl
        · exact hall j hj h2
        · simp_all⟩, by ((try simp only) <;> omega)⟩
    have h14' := dF h14
    have hseg := okP_all (k := lastK l i) hn0 (fun j hj => hall j hj (by simp at hj; omega))
    refine W.exit <| W.sr <| WL.z rfl rfl ?_
    refine W.cut (α := Unit) (fun t => [(0, .slice p l.length c), (3, .int .i64 (i : Int)), (4, .pointer (some ⟨b3, 0, none⟩)), (7, .int .i64 (lastK l i))]) (fun t w' => w1 = w') ?_ (fun t w1 hR => ?_)
    refine W.sr <| WL.m rfl rfl <| WL.p (.gtr rfl rfl) rfl <| WL.nil <| ?_
    refine W.cond rfl (fun h23 => ?_) (fun h23 => ?_)
    · have h23' := dT h23
      refine W.reg <| WL.m rfl rfl <| WL.m rfl rfl <| WL.p (.iis (((i - 1 : Nat) : Int)) (.sub rfl rfl (i64w oO)) oO) rfl <| WL.p (.ixm underlying77 sizeOf170 rfl rfl (hb2.isp oO) (i - 1) (rfl) oO) rfl <| WL.p (.fa underlying170 rfl sizeOf3 dD rfl) rfl <| WL.r (Rd.ldc (isAgg3 _) rfl ((hb2.field (i - 1) oO 0 dD).trans rfl)) rfl <| WL.z rfl rfl ?_
      first
      | exact ⟨(), ⟨rfl, rfl, rfl, lk_i rfl (lastK_pos hil oO).symm, trivial⟩, rfl⟩
      | exact ⟨(), ⟨rfl, rfl, rfl, lk_i rfl (by rw [show i = 0 by omega]; rfl), trivial⟩, rfl⟩
    have h23' := dF h23
    refine W.skip ?_
    first
    | exact ⟨(), ⟨rfl, rfl, rfl, lk_i rfl (lastK_pos hil oO).symm, trivial⟩, rfl⟩
    | exact ⟨(), ⟨rfl, rfl, rfl, lk_i rfl (by rw [show i = 0 by omega]; rfl), trivial⟩, rfl⟩
    obtain rfl := hR
    refine W.seq ?_
    have hfol := folB_eq l[i].fKind (lastK l i)
    refine W.cutB 75 (decide (l[i].fKind = 1) && decide (lastK l i = 1)) ?_ ?_
    refine W.reg <| WL.p (.fa underlying170 rfl sizeOf3 dD rfl) rfl <| WL.r (Rd.ld (isAgg3 _) rfl hk2 rfl) rfl <| WL.p (.eql rfl rfl) rfl <| WL.m rfl rfl <| WL.gd rfl rfl rfl (fun g24 => ?_) (fun g24 => ?_)
    · have g24' := dT g24
      refine WL.m rfl rfl <| WL.gy rfl rfl rfl g24 <| WL.p (.eql rfl rfl) rfl <| WL.p (.pkT rfl g24 rfl) rfl <| WL.nil <| ?_
      exact ⟨leE (lk_b rfl (by simp_all)), rfl⟩
    have g24' := dF g24
    refine WL.gn rfl rfl rfl g24 <| WL.p (.pkF rfl g24 rfl) rfl <| WL.nil <| ?_
    exact ⟨leE (lk_b rfl (by simp_all)), rfl⟩
    refine W.cond rfl (fun h25 => ?_) (fun h25 => ?_)
    refine W.sr <| WL.z rfl rfl ?_
    refine W.ret (W.ret1 rfl rfl ?_)
    first
    | exact ⟨scr_val (by unfold pathB; rw [decide_eq_false oO, Bool.false_and]), hT2⟩
    | exact ⟨scr_val (by unfold pathB; rw [← hz, hst, hseg, hfol]; first | (simp_all; done) | (simp_all <;> (intros; omega))), hT2⟩
    | exact ⟨scr_val (by unfold pathB; rw [← hz, hst, okP_no (k := lastK l i) hkl (by simp_all), Bool.false_and, Bool.and_false]), hT2⟩
    | exact ⟨scr_val (by
        have e : segN l[i].fKind = -1 := by unfold segN; rw [if_neg oO, if_neg oO, if_neg oO]
        unfold pathB; rw [← hz, hst]; unfold segB; rw [e]; simp), hT2⟩
    | exact ⟨scr_val (by unfold pathB; rw [← hz, List.drop_eq_nil_of_le oO, decide_eq_true h4]; rfl), hT2⟩
    refine W.skip ?_
    refine W.cutB 86 (!decide (l[i].fKind = 1) && (decide (lastK l i = 0) || decide (lastK l i = 4))) ?_ ?_
    refine W.reg <| WL.p (.fa underlying170 rfl sizeOf3 dD rfl) rfl <| WL.r (Rd.ld (isAgg3 _) rfl hk2 rfl) rfl <| WL.p (.neq rfl rfl) rfl <| WL.m rfl rfl <| WL.gd rfl rfl rfl (fun g26 => ?_) (fun g26 => ?_)
    · have g26' := ndT g26
      refine WL.m rfl rfl <| WL.gy rfl rfl rfl g26 <| WL.p (.eql rfl rfl) rfl <| WL.gy rfl rfl rfl g26 <| WL.m rfl rfl <| WL.gd rfl rfl rfl (fun g27 => ?_) (fun g27 => ?_)
      · have g27' := dF g27
        refine WL.m rfl rfl <| WL.gy rfl rfl rfl g27 <| WL.p (.eql rfl rfl) rfl <| WL.gy rfl rfl rfl g26 <| WL.p (.pkF rfl g27 rfl) rfl <| WL.p (.pkT rfl g26 rfl) rfl <| WL.nil <| ?_
        exact ⟨leE (lk_b rfl (by simp_all)), rfl⟩
      have g27' := dT g27
      refine WL.gn rfl rfl rfl g27 <| WL.gy rfl rfl rfl g26 <| WL.p (.pkT rfl g27 rfl) rfl <| WL.p (.pkT rfl g26 rfl) rfl <| WL.nil <| ?_
      exact ⟨leE (lk_b rfl (by simp_all)), rfl⟩
    have g26' := ndF g26
    refine WL.gn rfl rfl rfl g26 <| WL.gn rfl rfl rfl g26 <| WL.gu rfl rfl rfl <| WL.gu rfl rfl rfl <| WL.gn rfl rfl rfl g26 <| WL.p (.pkF rfl g26 rfl) rfl <| WL.nil <| ?_
    exact ⟨leE (lk_b rfl (by simp_all)), rfl⟩
    refine W.cond rfl (fun h28 => ?_) (fun h28 => ?_)
    refine W.sr <| WL.z rfl rfl ?_
    refine W.ret (W.ret1 rfl rfl ?_)
    first
    | exact ⟨scr_val (by unfold pathB; rw [decide_eq_false oO, Bool.false_and]), hT2⟩
    | exact ⟨scr_val (by unfold pathB; rw [← hz, hst, hseg, hfol]; first | (simp_all; done) | (simp_all <;> (intros; omega))), hT2⟩
    | exact ⟨scr_val (by unfold pathB; rw [← hz, hst, okP_no (k := lastK l i) hkl (by simp_all), Bool.false_and, Bool.and_false]), hT2⟩
    | exact ⟨scr_val (by
        have e : segN l[i].fKind = -1 := by unfold segN; rw [if_neg oO, if_neg oO, if_neg oO]
        unfold pathB; rw [← hz, hst]; unfold segB; rw [e]; simp), hT2⟩
    | exact ⟨scr_val (by unfold pathB; rw [← hz, List.drop_eq_nil_of_le oO, decide_eq_true h4]; rfl), hT2⟩
    refine W.skip <| W.reg <| WL.m rfl rfl <| WL.p (.iis (((i + 1 : Nat) : Int)) (.add rfl rfl (i64w oO)) oO) rfl <| WL.z rfl rfl ?_
    exact ⟨i + 1, ⟨rfl, rfl, trivial⟩, ⟨hT2, hb2, by ((try simp only) <;> omega), by rw [lastK_succ hil, ← hz, hst, hseg, hfol]; simp_all <;> (intros; omega)⟩, by ((try simp only) <;> omega)⟩
  have h2' := dF h2
  refine W.exit <| W.sr <| WL.z rfl rfl ?_
  refine W.ret (W.ret1 rfl rfl ?_)
  first
  | exact ⟨scr_val (by unfold pathB; rw [decide_eq_false oO, Bool.false_and]), hT⟩
  | exact ⟨scr_val (by unfold pathB; rw [← hz, hst, hseg, hfol]; first | (simp_all; done) | (simp_all <;> (intros; omega))), hT⟩
  | exact ⟨scr_val (by unfold pathB; rw [← hz, hst, okP_no (k := lastK l i) hkl (by simp_all), Bool.false_and, Bool.and_false]), hT⟩
  | exact ⟨scr_val (by
      have e : segN l[i].fKind = -1 := by unfold segN; rw [if_neg oO, if_neg oO, if_neg oO]
      unfold pathB; rw [← hz, hst]; unfold segB; rw [e]; simp), hT⟩
  | exact ⟨scr_val (by unfold pathB; rw [← hz, List.drop_eq_nil_of_le oO, decide_eq_true h4]; rfl), hT⟩
end
section
def noneB (x : PenV) : Bool := decide (x.fWidth = 0) && decide (x.fCap = 0) && decide (x.fJoin = 0) && decide (x.fMiter = 0) && decide ((x.fDash.length : Int) = 0) && decide (x.fPhase = 0)
def penH (x : PenV) : Bool := decide (x.fWidth < 0) || !fitsB x.fWidth || decide (x.fCap < 0) || decide (x.fCap > 2) || decide (x.fJoin < 0) || decide (x.fJoin > 2) || decide (x.fMiter < 65536) || !fitsB x.fMiter || decide (x.fPhase < 0) || !fitsB x.fPhase || decide ((x.fDash.length : Int) > 11)
def dashB (n : Int) : Bool := decide (0 ≤ n) && fitsB n
def penB (x : PenV) : Bool := !penH x && x.fDash.all dashB && (x.fDash.isEmpty || x.fDash.any fun n => decide (0 < n))
theorem paint_none (x : PenV) (w : World) : Calls Tryz.prog 143 #[.agg (penV x).toArray] w fun e w' => e = .returned (.bool (noneB x)) ∧ Below w.heap.size w w' := by
 refine W.enter func143 rfl ntmps143 (Nat.le_of_ble_eq_true rfl) ?_
 have hB0 := Below.refl (w.heap.size) w
 refine W.sr <| WL.box rfl rfl (fun b1 wb1 eb1 hkb1 hub1 hsb1 => ?_)
 have hB2 := Upd.below hB0 (by rw [eb1]; exact hB0.size) hub1
 have hgeb1 : w.heap.size ≤ b1 := by rw [eb1]; exact hB0.size
 refine WL.z rfl rfl ?_
 refine W.sr <| WL.p (.fa underlying84 rfl sizeOf3 dD rfl) rfl <| WL.r (Rd.ld (isAgg3 _) rfl hkb1 rfl) rfl <| WL.p (.eql rfl rfl) rfl <| WL.m rfl rfl <| WL.gd rfl rfl rfl (fun g3 => ?_) (fun g3 => ?_)
 have g3' := dT g3
 refine WL.p (.fa underlying84 rfl sizeOf3 dD rfl) rfl <| WL.gy rfl rfl rfl g3 <| WL.r (Rd.ld (isAgg3 _) rfl hkb1 rfl) rfl <| WL.gy rfl rfl rfl g3 <| WL.p (.eql rfl rfl) rfl <| WL.p (.pkT rfl g3 rfl) rfl <| WL.m rfl rfl <| WL.gd rfl rfl rfl (fun g4 => ?_) (fun g4 => ?_)
 have g4' := dT g4
 refine WL.p (.fa underlying84 rfl sizeOf3 dD rfl) rfl <| WL.gy rfl rfl rfl g4 <| WL.r (Rd.ld (isAgg3 _) rfl hkb1 rfl) rfl <| WL.gy rfl rfl rfl g4 <| WL.p (.eql rfl rfl) rfl <| WL.p (.pkT rfl g4 rfl) rfl <| WL.m rfl rfl <| WL.gd rfl rfl rfl (fun g5 => ?_) (fun g5 => ?_)
 have g5' := dT g5
 refine WL.p (.fa underlying84 rfl sizeOf3 dD rfl) rfl <| WL.gy rfl rfl rfl g5 <| WL.r (Rd.ld (isAgg3 _) rfl hkb1 rfl) rfl <| WL.gy rfl rfl rfl g5 <| WL.p (.eql rfl rfl) rfl <| WL.p (.pkT rfl g5 rfl) rfl <| WL.m rfl rfl <| WL.gd rfl rfl rfl (fun g6 => ?_) (fun g6 => ?_)
 have g6' := dT g6
 refine WL.p (.fa underlying84 rfl sizeOf82 dD rfl) rfl <| WL.gy rfl rfl rfl g6 <| WL.r (Rd.ld (isAgg82 _) rfl hkb1 rfl) rfl <| WL.gy rfl rfl rfl g6 <| WL.p (.lenS underlying82 rfl) rfl <| WL.gy rfl rfl rfl g6 <| WL.p (.eql rfl rfl) rfl <| WL.p (.pkT rfl g6 rfl) rfl <| WL.m rfl rfl <| WL.gd rfl rfl rfl (fun g7 => ?_) (fun g7 => ?_)
 have g7' := dT g7
 refine WL.p (.fa underlying84 rfl sizeOf3 dD rfl) rfl <| WL.gy rfl rfl rfl g7 <| WL.r (Rd.ld (isAgg3 _) rfl hkb1 rfl) rfl <| WL.gy rfl rfl rfl g7 <| WL.p (.eql rfl rfl) rfl <| WL.p (.pkT rfl g7 rfl) rfl <| WL.z rfl rfl ?_
 refine W.ret (W.ret1 rfl rfl ?_)
 exact ⟨scr_val (by unfold noneB; simp_all), hB2⟩
 have g7' := dF g7
 refine WL.gn rfl rfl rfl g7 <| WL.gn rfl rfl rfl g7 <| WL.p (.pkF rfl g7 rfl) rfl <| WL.z rfl rfl ?_
 refine W.ret (W.ret1 rfl rfl ?_)
 exact ⟨scr_val (by unfold noneB; simp_all), hB2⟩
 have g6' := dF g6
 refine WL.gn rfl rfl rfl g6 <| WL.gn rfl rfl rfl g6 <| WL.gn rfl rfl rfl g6 <| WL.p (.pkF rfl g6 rfl) rfl <| WL.m rfl rfl <| WL.gn rfl rfl rfl rfl <| WL.gn rfl rfl rfl rfl <| WL.gn rfl rfl rfl rfl <| WL.p (.pkF rfl rfl rfl) rfl <| WL.z rfl rfl ?_
 refine W.ret (W.ret1 rfl rfl ?_)
 exact ⟨scr_val (by unfold noneB; simp_all), hB2⟩
 have g5' := dF g5
 refine WL.gn rfl rfl rfl g5 <| WL.gn rfl rfl rfl g5 <| WL.p (.pkF rfl g5 rfl) rfl <| WL.m rfl rfl <| WL.gn rfl rfl rfl rfl <| WL.gn rfl rfl rfl rfl <| WL.gn rfl rfl rfl rfl <| WL.gn rfl rfl rfl rfl <| WL.p (.pkF rfl rfl rfl) rfl <| WL.m rfl rfl <| WL.gn rfl rfl rfl rfl <| WL.gn rfl rfl rfl rfl <| WL.gn rfl rfl rfl rfl <| WL.p (.pkF rfl rfl rfl) rfl <| WL.z rfl rfl ?_
 refine W.ret (W.ret1 rfl rfl ?_)
 exact ⟨scr_val (by unfold noneB; simp_all), hB2⟩
 have g4' := dF g4
 refine WL.gn rfl rfl rfl g4 <| WL.gn rfl rfl rfl g4 <| WL.p (.pkF rfl g4 rfl) rfl <| WL.m rfl rfl <| WL.gn rfl rfl rfl rfl <| WL.gn rfl rfl rfl rfl <| WL.gn rfl rfl rfl rfl <| WL.p (.pkF rfl rfl rfl) rfl <| WL.m rfl rfl <| WL.gn rfl rfl rfl rfl <| WL.gn rfl rfl rfl rfl <| WL.gn rfl rfl rfl rfl <| WL.gn rfl rfl rfl rfl <| WL.p (.pkF rfl rfl rfl) rfl <| WL.m rfl rfl <| WL.gn rfl rfl rfl rfl <| WL.gn rfl rfl rfl rfl <| WL.gn rfl rfl rfl rfl <| WL.p (.pkF rfl rfl rfl) rfl <| WL.z rfl rfl ?_
 refine W.ret (W.ret1 rfl rfl ?_)
 exact ⟨scr_val (by unfold noneB; simp_all), hB2⟩
 have g3' := dF g3
 refine WL.gn rfl rfl rfl g3 <| WL.gn rfl rfl rfl g3 <| WL.p (.pkF rfl g3 rfl) rfl <| WL.m rfl rfl <| WL.gn rfl rfl rfl rfl <| WL.gn rfl rfl rfl rfl <| WL.gn rfl rfl rfl rfl <| WL.p (.pkF rfl rfl rfl) rfl <| WL.m rfl rfl <| WL.gn rfl rfl rfl rfl <| WL.gn rfl rfl rfl rfl <| WL.gn rfl rfl rfl rfl <| WL.p (.pkF rfl rfl rfl) rfl <| WL.m rfl rfl <| WL.gn rfl rfl rfl rfl <| WL.gn rfl rfl rfl rfl <| WL.gn rfl rfl rfl rfl <| WL.gn rfl rfl rfl rfl <| WL.p (.pkF rfl rfl rfl) rfl <| WL.m rfl rfl <| WL.gn rfl rfl rfl rfl <| WL.gn rfl rfl rfl rfl <| WL.gn rfl rfl rfl rfl <| WL.p (.pkF rfl rfl rfl) rfl <| WL.z rfl rfl ?_
 refine W.ret (W.ret1 rfl rfl ?_)
 exact ⟨scr_val (by unfold noneB; simp_all), hB2⟩
def sumI (l : List Int) : Int := l.foldl (· + ·) 0
theorem sumI_take {l : List Int} {i : Nat} (h : i < l.length) : sumI (l.take (i + 1)) = sumI (l.take i) + l[i] := by
 unfold sumI
 rw [List.take_add_one, List.getElem?_eq_getElem h, Option.toList_some, List.foldl_append]; rfl
theorem sumI_sum (l : List Int) : sumI l = l.sum := by
 unfold sumI; rw [List.sum_eq_foldl]
theorem sum_bound : ∀ (l : List Int), (∀ n ∈ l, dashB n = true) → 0 ≤ l.sum ∧ l.sum ≤ 2147483647 * (l.length : Int) ∧ (0 < l.sum ↔ (l.any fun n => decide (0 < n)) = true)
 | [], _ => by simp
 | n :: l, h => by
  have h1 := sum_bound l fun m hm => h m (List.mem_cons_of_mem _ hm)
  have h2 := h n (List.mem_cons_self ..)
  simp only [dashB, fitsB, Bool.and_eq_true, decide_eq_true_eq] at h2
  obtain ⟨a, b, c⟩ := h1
  refine ⟨by simp only [List.sum_cons]; omega, by simp only [List.sum_cons, List.length_cons]; omega, ?_⟩
  simp only [List.sum_cons, List.any_cons, Bool.or_eq_true, decide_eq_true_eq]
  rw [← c]; omega
theorem all_take {α : Type} {q : α → Bool} {l : List α} {i : Nat} (h : ∀ j (hj : j < l.length), j < i → q l[j] = true) : ∀ n ∈ l.take i, q n = true := fun n hn => by
 obtain ⟨j, hj, rfl⟩ := List.mem_iff_getElem.1 hn
 have : j < i ∧ j < l.length := by rw [List.length_take] at hj; omega
 rw [List.getElem_take]; exact h j this.2 this.1
theorem all_of {α : Type} {q : α → Bool} {l : List α} (h : ∀ j (hj : j < l.length), q l[j] = true) : l.all q = true := List.all_eq_true.2 fun x hx => by
 obtain ⟨j, hj, rfl⟩ := List.mem_iff_getElem.1 hx
 exact h j hj
theorem all_not {α : Type} {q : α → Bool} {l : List α} {j : Nat} (hj : j < l.length) (h : q l[j] = false) : l.all q = false := by
 rw [Bool.eq_false_iff]; intro e
 rw [List.all_eq_true.1 e _ (List.getElem_mem hj)] at h; cases h
theorem dash_le {n : Int} (h : dashB n = true) : 0 ≤ n ∧ n ≤ 2147483647 := by simp only [dashB, fitsB, Bool.and_eq_true, decide_eq_true_eq] at h; omega
theorem paint_pen (x : PenV) (w : World) (hr : RowAt intV w x.pfDash x.fDash) : Calls Tryz.prog 145 #[.agg (penV x).toArray] w fun e w' => e = .returned (.bool (penB x)) ∧ Below w.heap.size w w' := by
 have hrlt : 0 < x.fDash.length → (pA x.pfDash).block < w.heap.size := fun h0 => hr.lt h0
 refine W.enter func145 rfl ntmps145 (Nat.le_of_ble_eq_true rfl) ?_
 have hB0 := Below.refl (w.heap.size) w
 refine W.sr <| WL.box rfl rfl (fun b1 wb1 eb1 hkb1 hub1 hsb1 => ?_)
 have hvl3 := fun h0 => eb1 ▸ hr.lt h0
 have hv2 := RowAt.upd hr hub1 (fun h0 => Nat.ne_of_lt (hvl3 h0))
 have hB4 := Upd.below hB0 (by rw [eb1]; exact hB0.size) hub1
 have hgeb1 : w.heap.size ≤ b1 := by rw [eb1]; exact hB0.size
 refine WL.z rfl rfl ?_
 refine W.seq ?_
 refine W.cutB 62 (penH x) ?_ ?_
 refine W.reg <| WL.p (.fa underlying84 rfl sizeOf3 dD rfl) rfl <| WL.r (Rd.ld (isAgg3 _) rfl hkb1 rfl) rfl <| WL.p (.lss rfl rfl) rfl <| WL.m rfl rfl <| WL.gd rfl rfl rfl (fun g5 => ?_) (fun g5 => ?_)
 have g5' := dF g5
 refine WL.p (.fa underlying84 rfl sizeOf3 dD rfl) rfl <| WL.gy rfl rfl rfl g5 <| WL.r (Rd.ld (isAgg3 _) rfl hkb1 rfl) rfl <| WL.gy rfl rfl rfl g5 <| WL.c1 hb195 rfl rfl ((fix_Fits _ _)) (fun w6 hw6 => ?_)
 obtain rfl := hw6
 refine WL.gy rfl rfl rfl g5 <| WL.p (.not rfl) rfl <| WL.p (.pkF rfl g5 rfl) rfl <| WL.m rfl rfl <| WL.gd rfl rfl rfl (fun g7 => ?_) (fun g7 => ?_)
 have g7' := (nF g7)
 refine WL.p (.fa underlying84 rfl sizeOf3 dD rfl) rfl <| WL.gy rfl rfl rfl (by rw [(nF g7)] <;> rfl) <| WL.r (Rd.ld (isAgg3 _) rfl hkb1 rfl) rfl <| WL.gy rfl rfl rfl (by rw [(nF g7)] <;> rfl) <| WL.p (.lss rfl rfl) rfl <| WL.p (.pkF rfl (by rw [(nF g7)] <;> rfl) rfl) rfl <| WL.m rfl rfl <| WL.gd rfl rfl rfl (fun g8 => ?_) (fun g8 => ?_)
 have g8' := dF g8
 refine WL.p (.fa underlying84 rfl sizeOf3 dD rfl) rfl <| WL.gy rfl rfl rfl g8 <| WL.r (Rd.ld (isAgg3 _) rfl hkb1 rfl) rfl <| WL.gy rfl rfl rfl g8 <| WL.p (.gtr rfl rfl) rfl <| WL.p (.pkF rfl g8 rfl) rfl <| WL.m rfl rfl <| WL.gd rfl rfl rfl (fun g9 => ?_) (fun g9 => ?_)
 have g9' := dF g9
 refine WL.p (.fa underlying84 rfl sizeOf3 dD rfl) rfl <| WL.gy rfl rfl rfl g9 <| WL.r (Rd.ld (isAgg3 _) rfl hkb1 rfl) rfl <| WL.gy rfl rfl rfl g9 <| WL.p (.lss rfl rfl) rfl <| WL.p (.pkF rfl g9 rfl) rfl <| WL.m rfl rfl <| WL.gd rfl rfl rfl (fun g10 => ?_) (fun g10 => ?_)
 have g10' := dF g10
 refine WL.p (.fa underlying84 rfl sizeOf3 dD rfl) rfl <| WL.gy rfl rfl rfl g10 <| WL.r (Rd.ld (isAgg3 _) rfl hkb1 rfl) rfl <| WL.gy rfl rfl rfl g10 <| WL.p (.gtr rfl rfl) rfl <| WL.p (.pkF rfl g10 rfl) rfl <| WL.m rfl rfl <| WL.gd rfl rfl rfl (fun g11 => ?_) (fun g11 => ?_)
 have g11' := dF g11
 refine WL.p (.fa underlying84 rfl sizeOf3 dD rfl) rfl <| WL.gy rfl rfl rfl g11 <| WL.r (Rd.ld (isAgg3 _) rfl hkb1 rfl) rfl <| WL.gy rfl rfl rfl g11 <| WL.p (.lss rfl rfl) rfl <| WL.p (.pkF rfl g11 rfl) rfl <| WL.m rfl rfl <| WL.gd rfl rfl rfl (fun g12 => ?_) (fun g12 => ?_)
 have g12' := dF g12
 refine WL.p (.fa underlying84 rfl sizeOf3 dD rfl) rfl <| WL.gy rfl rfl rfl g12 <| WL.r (Rd.ld (isAgg3 _) rfl hkb1 rfl) rfl <| WL.gy rfl rfl rfl g12 <| WL.c1 hb195 rfl rfl ((fix_Fits _ _)) (fun w13 hw13 => ?_)
 obtain rfl := hw13
 refine WL.gy rfl rfl rfl g12 <| WL.p (.not rfl) rfl <| WL.p (.pkF rfl g12 rfl) rfl <| WL.m rfl rfl <| WL.gd rfl rfl rfl (fun g14 => ?_) (fun g14 => ?_)
 have g14' := (nF g14)
 refine WL.p (.fa underlying84 rfl sizeOf3 dD rfl) rfl <| WL.gy rfl rfl rfl (by rw [(nF g14)] <;> rfl) <| WL.r (Rd.ld (isAgg3 _) rfl hkb1 rfl) rfl <| WL.gy rfl rfl rfl (by rw [(nF g14)] <;> rfl) <| WL.p (.lss rfl rfl) rfl <| WL.p (.pkF rfl (by rw [(nF g14)] <;> rfl) rfl) rfl <| WL.m rfl rfl <| WL.gd rfl rfl rfl (fun g15 => ?_) (fun g15 => ?_)
 have g15' := dF g15
 refine WL.p (.fa underlying84 rfl sizeOf3 dD rfl) rfl <| WL.gy rfl rfl rfl g15 <| WL.r (Rd.ld (isAgg3 _) rfl hkb1 rfl) rfl <| WL.gy rfl rfl rfl g15 <| WL.c1 hb195 rfl rfl ((fix_Fits _ _)) (fun w16 hw16 => ?_)
 obtain rfl := hw16
 refine WL.gy rfl rfl rfl g15 <| WL.p (.not rfl) rfl <| WL.p (.pkF rfl g15 rfl) rfl <| WL.m rfl rfl <| WL.gd rfl rfl rfl (fun g17 => ?_) (fun g17 => ?_)
 have g17' := (nF g17)
 refine WL.p (.fa underlying84 rfl sizeOf82 dD rfl) rfl <| WL.gy rfl rfl rfl (by rw [(nF g17)] <;> rfl) <| WL.r (Rd.ld (isAgg82 _) rfl hkb1 rfl) rfl <| WL.gy rfl rfl rfl (by rw [(nF g17)] <;> rfl) <| WL.p (.lenS underlying82 rfl) rfl <| WL.gy rfl rfl rfl (by rw [(nF g17)] <;> rfl) <| WL.p (.gtr rfl rfl) rfl <| WL.p (.pkF rfl (by rw [(nF g17)] <;> rfl) rfl) rfl <| WL.nil <| ?_
 exact ⟨leE (lk_b rfl (by unfold penH; first | (simp_all; done) | (simp_all <;> (intros; omega)))), rfl⟩
 have g17' := (nT g17)
 refine WL.gn rfl rfl rfl (by rw [(nT g17)] <;> rfl) <| WL.gn rfl rfl rfl (by rw [(nT g17)] <;> rfl) <| WL.gn rfl rfl rfl (by rw [(nT g17)] <;> rfl) <| WL.p (.pkT rfl (by rw [(nT g17)] <;> rfl) rfl) rfl <| WL.nil <| ?_
 exact ⟨leE (lk_b rfl (by unfold penH; first | (simp_all; done) | (simp_all <;> (intros; omega)))), rfl⟩
 have g15' := dT g15
 refine WL.gn rfl rfl rfl g15 <| WL.gn rfl rfl rfl g15 <| WL.gn rfl rfl rfl g15 <| WL.p (.pkT rfl g15 rfl) rfl <| WL.m rfl rfl <| WL.gn rfl rfl rfl rfl <| WL.gn rfl rfl rfl rfl <| WL.gn rfl rfl rfl rfl <| WL.gn rfl rfl rfl rfl <| WL.p (.pkT rfl rfl rfl) rfl <| WL.nil <| ?_
 exact ⟨leE (lk_b rfl (by unfold penH; first | (simp_all; done) | (simp_all <;> (intros; omega)))), rfl⟩
 have g14' := (nT g14)
 refine WL.gn rfl rfl rfl (by rw [(nT g14)] <;> rfl) <| WL.gn rfl rfl rfl (by rw [(nT g14)] <;> rfl) <| WL.p (.pkT rfl (by rw [(nT g14)] <;> rfl) rfl) rfl <| WL.m rfl rfl <| WL.gn rfl rfl rfl rfl <| WL.gn rfl rfl rfl rfl <| WL.gn rfl rfl rfl rfl <| WL.gn rfl rfl rfl rfl <| WL.p (.pkT rfl rfl rfl) rfl <| WL.m rfl rfl <| WL.gn rfl rfl rfl rfl <| WL.gn rfl rfl rfl rfl <| WL.gn rfl rfl rfl rfl <| WL.gn rfl rfl rfl rfl <| WL.p (.pkT rfl rfl rfl) rfl <| WL.nil <| ?_
 exact ⟨leE (lk_b rfl (by unfold penH; first | (simp_all; done) | (simp_all <;> (intros; omega)))), rfl⟩
 have g12' := dT g12
 refine WL.gn rfl rfl rfl g12 <| WL.gn rfl rfl rfl g12 <| WL.gn rfl rfl rfl g12 <| WL.p (.pkT rfl g12 rfl) rfl <| WL.m rfl rfl <| WL.gn rfl rfl rfl rfl <| WL.gn rfl rfl rfl rfl <| WL.gn rfl rfl rfl rfl <| WL.p (.pkT rfl rfl rfl) rfl <| WL.m rfl rfl <| WL.gn rfl rfl rfl rfl <| WL.gn rfl rfl rfl rfl <| WL.gn rfl rfl rfl rfl <| WL.gn rfl rfl rfl rfl <| WL.p (.pkT rfl rfl rfl) rfl <| WL.m rfl rfl <| WL.gn rfl rfl rfl rfl <| WL.gn rfl rfl rfl rfl <| WL.gn rfl rfl rfl rfl <| WL.gn rfl rfl rfl rfl <| WL.p (.pkT rfl rfl rfl) rfl <| WL.nil <| ?_
 exact ⟨leE (lk_b rfl (by unfold penH; first | (simp_all; done) | (simp_all <;> (intros; omega)))), rfl⟩
 have g11' := dT g11
 refine WL.gn rfl rfl rfl g11 <| WL.gn rfl rfl rfl g11 <| WL.p (.pkT rfl g11 rfl) rfl <| WL.m rfl rfl <| WL.gn rfl rfl rfl rfl <| WL.gn rfl rfl rfl rfl <| WL.gn rfl rfl rfl rfl <| WL.gn rfl rfl rfl rfl <| WL.p (.pkT rfl rfl rfl) rfl <| WL.m rfl rfl <| WL.gn rfl rfl rfl rfl <| WL.gn rfl rfl rfl rfl <| WL.gn rfl rfl rfl rfl <| WL.p (.pkT rfl rfl rfl) rfl <| WL.m rfl rfl <| WL.gn rfl rfl rfl rfl <| WL.gn rfl rfl rfl rfl <| WL.gn rfl rfl rfl rfl <| WL.gn rfl rfl rfl rfl <| WL.p (.pkT rfl rfl rfl) rfl <| WL.m rfl rfl <| WL.gn rfl rfl rfl rfl <| WL.gn rfl rfl rfl rfl <| WL.gn rfl rfl rfl rfl <| WL.gn rfl rfl rfl rfl <| WL.p (.pkT rfl rfl rfl) rfl <| WL.nil <| ?_
 exact ⟨leE (lk_b rfl (by unfold penH; first | (simp_all; done) | (simp_all <;> (intros; omega)))), rfl⟩
 have g10' := dT g10
 refine WL.gn rfl rfl rfl g10 <| WL.gn rfl rfl rfl g10 <| WL.p (.pkT rfl g10 rfl) rfl <| WL.m rfl rfl <| WL.gn rfl rfl rfl rfl <| WL.gn rfl rfl rfl rfl <| WL.gn rfl rfl rfl rfl <| WL.p (.pkT rfl rfl rfl) rfl <| WL.m rfl rfl <| WL.gn rfl rfl rfl rfl <| WL.gn rfl rfl rfl rfl <| WL.gn rfl rfl rfl rfl <| WL.gn rfl rfl rfl rfl <| WL.p (.pkT rfl rfl rfl) rfl <| WL.m rfl rfl <| WL.gn rfl rfl rfl rfl <| WL.gn rfl rfl rfl rfl <| WL.gn rfl rfl rfl rfl <| WL.p (.pkT rfl rfl rfl) rfl <| WL.m rfl rfl <| WL.gn rfl rfl rfl rfl <| WL.gn rfl rfl rfl rfl <| WL.gn rfl rfl rfl rfl <| WL.gn rfl rfl rfl rfl <| WL.p (.pkT rfl rfl rfl) rfl <| WL.m rfl rfl <| WL.gn rfl rfl rfl rfl <| WL.gn rfl rfl rfl rfl <| WL.gn rfl rfl rfl rfl <| WL.gn rfl rfl rfl rfl <| WL.p (.pkT rfl rfl rfl) rfl <| WL.nil <| ?_
 exact ⟨leE (lk_b rfl (by unfold penH; first | (simp_all; done) | (simp_all <;> (intros; omega)))), rfl⟩
 have g9' := dT g9
 refine WL.gn rfl rfl rfl g9 <| WL.gn rfl rfl rfl g9 <| WL.p (.pkT rfl g9 rfl) rfl <| WL.m rfl rfl <| WL.gn rfl rfl rfl rfl <| WL.gn rfl rfl rfl rfl <| WL.gn rfl rfl rfl rfl <| WL.p (.pkT rfl rfl rfl) rfl <| WL.m rfl rfl <| WL.gn rfl rfl rfl rfl <| WL.gn rfl rfl rfl rfl <| WL.gn rfl rfl rfl rfl <| WL.p (.pkT rfl rfl rfl) rfl <| WL.m rfl rfl <| WL.gn rfl rfl rfl rfl <| WL.gn rfl rfl rfl rfl <| WL.gn rfl rfl rfl rfl <| WL.gn rfl rfl rfl rfl <| WL.p (.pkT rfl rfl rfl) rfl <| WL.m rfl rfl <| WL.gn rfl rfl rfl rfl <| WL.gn rfl rfl rfl rfl <| WL.gn rfl rfl rfl rfl <| WL.p (.pkT rfl rfl rfl) rfl <| WL.m rfl rfl <| WL.gn rfl rfl rfl rfl <| WL.gn rfl rfl rfl rfl <| WL.gn rfl rfl rfl rfl <| WL.gn rfl rfl rfl rfl <| WL.p (.pkT rfl rfl rfl) rfl <| WL.m rfl rfl <| WL.gn rfl rfl rfl rfl <| WL.gn rfl rfl rfl rfl <| WL.gn rfl rfl rfl rfl <| WL.gn rfl rfl rfl rfl <| WL.p (.pkT rfl rfl rfl) rfl <| WL.nil <| ?_
 exact ⟨leE (lk_b rfl (by unfold penH; first | (simp_all; done) | (simp_all <;> (intros; omega)))), rfl⟩
 have g8' := dT g8
 refine WL.gn rfl rfl rfl g8 <| WL.gn rfl rfl rfl g8 <| WL.p (.pkT rfl g8 rfl) rfl <| WL.m rfl rfl <| WL.gn rfl rfl rfl rfl <| WL.gn rfl rfl rfl rfl <| WL.gn rfl rfl rfl rfl <| WL.p (.pkT rfl rfl rfl) rfl <| WL.m rfl rfl <| WL.gn rfl rfl rfl rfl <| WL.gn rfl rfl rfl rfl <| WL.gn rfl rfl rfl rfl <| WL.p (.pkT rfl rfl rfl) rfl <| WL.m rfl rfl <| WL.gn rfl rfl rfl rfl <| WL.gn rfl rfl rfl rfl <| WL.gn rfl rfl rfl rfl <| WL.p (.pkT rfl rfl rfl) rfl <| WL.m rfl rfl <| WL.gn rfl rfl rfl rfl <| WL.gn rfl rfl rfl rfl <| WL.gn rfl rfl rfl rfl <| WL.gn rfl rfl rfl rfl <| WL.p (.pkT rfl rfl rfl) rfl <| WL.m rfl rfl <| WL.gn rfl rfl rfl rfl <| WL.gn rfl rfl rfl rfl <| WL.gn rfl rfl rfl rfl <| WL.p (.pkT rfl rfl rfl) rfl <| WL.m rfl rfl <| WL.gn rfl rfl rfl rfl <| WL.gn rfl rfl rfl rfl <| WL.gn rfl rfl rfl rfl <| WL.gn rfl rfl rfl rfl <| WL.p (.pkT rfl rfl rfl) rfl <| WL.m rfl rfl <| WL.gn rfl rfl rfl rfl <| WL.gn rfl rfl rfl rfl <| WL.gn rfl rfl rfl rfl <| WL.gn rfl rfl rfl rfl <| WL.p (.pkT rfl rfl rfl) rfl <| WL.nil <| ?_
 exact ⟨leE (lk_b rfl (by unfold penH; first | (simp_all; done) | (simp_all <;> (intros; omega)))), rfl⟩
 have g7' := (nT g7)
 refine WL.gn rfl rfl rfl (by rw [(nT g7)] <;> rfl) <| WL.gn rfl rfl rfl (by rw [(nT g7)] <;> rfl) <| WL.p (.pkT rfl (by rw [(nT g7)] <;> rfl) rfl) rfl <| WL.m rfl rfl <| WL.gn rfl rfl rfl rfl <| WL.gn rfl rfl rfl rfl <| WL.gn rfl rfl rfl rfl <| WL.p (.pkT rfl rfl rfl) rfl <| WL.m rfl rfl <| WL.gn rfl rfl rfl rfl <| WL.gn rfl rfl rfl rfl <| WL.gn rfl rfl rfl rfl <| WL.p (.pkT rfl rfl rfl) rfl <| WL.m rfl rfl <| WL.gn rfl rfl rfl rfl <| WL.gn rfl rfl rfl rfl <| WL.gn rfl rfl rfl rfl <| WL.p (.pkT rfl rfl rfl) rfl <| WL.m rfl rfl <| WL.gn rfl rfl rfl rfl <| WL.gn rfl rfl rfl rfl <| WL.gn rfl rfl rfl rfl <| WL.p (.pkT rfl rfl rfl) rfl <| WL.m rfl rfl <| WL.gn rfl rfl rfl rfl <| WL.gn rfl rfl rfl rfl <| WL.gn rfl rfl rfl rfl <| WL.gn rfl rfl rfl rfl <| WL.p (.pkT rfl rfl rfl) rfl <| WL.m rfl rfl <| WL.gn rfl rfl rfl rfl <| WL.gn rfl rfl rfl rfl <| WL.gn rfl rfl rfl rfl <| WL.p (.pkT rfl rfl rfl) rfl <| WL.m rfl rfl <| WL.gn rfl rfl rfl rfl <| WL.gn rfl rfl rfl rfl <| WL.gn rfl rfl rfl rfl <| WL.gn rfl rfl rfl rfl <| WL.p (.pkT rfl rfl rfl) rfl <| WL.m rfl rfl <| WL.gn rfl rfl rfl rfl <| WL.gn rfl rfl rfl rfl <| WL.gn rfl rfl rfl rfl <| WL.gn rfl rfl rfl rfl <| WL.p (.pkT rfl rfl rfl) rfl <| WL.nil <| ?_
 exact ⟨leE (lk_b rfl (by unfold penH; first | (simp_all; done) | (simp_all <;> (intros; omega)))), rfl⟩
 have g5' := dT g5
 refine WL.gn rfl rfl rfl g5 <| WL.gn rfl rfl rfl g5 <| WL.gn rfl rfl rfl g5 <| WL.p (.pkT rfl g5 rfl) rfl <| WL.m rfl rfl <| WL.gn rfl rfl rfl rfl <| WL.gn rfl rfl rfl rfl <| WL.gn rfl rfl rfl rfl <| WL.p (.pkT rfl rfl rfl) rfl <| WL.m rfl rfl <| WL.gn rfl rfl rfl rfl <| WL.gn rfl rfl rfl rfl <| WL.gn rfl rfl rfl rfl <| WL.p (.pkT rfl rfl rfl) rfl <| WL.m rfl rfl <| WL.gn rfl rfl rfl rfl <| WL.gn rfl rfl rfl rfl <| WL.gn rfl rfl rfl rfl <| WL.p (.pkT rfl rfl rfl) rfl <| WL.m rfl rfl <| WL.gn rfl rfl rfl rfl <| WL.gn rfl rfl rfl rfl <| WL.gn rfl rfl rfl rfl <| WL.p (.pkT rfl rfl rfl) rfl <| WL.m rfl rfl <| WL.gn rfl rfl rfl rfl <| WL.gn rfl rfl rfl rfl <| WL.gn rfl rfl rfl rfl <| WL.p (.pkT rfl rfl rfl) rfl <| WL.m rfl rfl <| WL.gn rfl rfl rfl rfl <| WL.gn rfl rfl rfl rfl <| WL.gn rfl rfl rfl rfl <| WL.gn rfl rfl rfl rfl <| WL.p (.pkT rfl rfl rfl) rfl <| WL.m rfl rfl <| WL.gn rfl rfl rfl rfl <| WL.gn rfl rfl rfl rfl <| WL.gn rfl rfl rfl rfl <| WL.p (.pkT rfl rfl rfl) rfl <| WL.m rfl rfl <| WL.gn rfl rfl rfl rfl <| WL.gn rfl rfl rfl rfl <| WL.gn rfl rfl rfl rfl <| WL.gn rfl rfl rfl rfl <| WL.p (.pkT rfl rfl rfl) rfl <| WL.m rfl rfl <| WL.gn rfl rfl rfl rfl <| WL.gn rfl rfl rfl rfl <| WL.gn rfl rfl rfl rfl <| WL.gn rfl rfl rfl rfl <| WL.p (.pkT rfl rfl rfl) rfl <| WL.nil <| ?_
 exact ⟨leE (lk_b rfl (by unfold penH; first | (simp_all; done) | (simp_all <;> (intros; omega)))), rfl⟩
 refine W.cond rfl (fun h18 => ?_) (fun h18 => ?_)
 refine W.sr <| WL.z rfl rfl ?_
 refine W.ret (W.ret1 rfl rfl ?_)
 first
 | exact ⟨scr_val (by unfold penB; rw [show penH x = true by assumption]; rfl), hB4⟩
 | exact ⟨scr_val (by unfold penB; rw [all_not (q := dashB) (j := i) oO (by simpa using (show (!dashB (x.fDash[i]'oO)) = true by assumption)), Bool.and_false, Bool.false_and]), hB4⟩
 | exact ⟨scr_val (by rw [hpe, show x.fDash = [] from List.eq_nil_of_length_eq_zero oO]; rfl), hB4⟩
 | exact ⟨scr_val (by
   rw [hpe, List.take_of_length_le (show x.fDash.length ≤ i by omega)]
   have he : x.fDash.isEmpty = false := by rw [Bool.eq_false_iff]; intro hq; have := List.isEmpty_iff.1 hq; simp_all
   rw [he, Bool.false_or]
   exact congrArg Value.bool (Bool.eq_iff_iff.2 (decide_eq_true_iff.trans hs.2.2))), hB4⟩
 have hp : penH x = false := by assumption
 refine W.skip <| W.sr <| WL.z rfl rfl ?_
 refine W.seq <| W.sr <| WL.p (.fa underlying84 rfl sizeOf82 dD rfl) rfl <| WL.r (Rd.ld (isAgg82 _) rfl hkb1 rfl) rfl <| WL.p (.lenS underlying82 rfl) rfl <| WL.m rfl rfl <| WL.nil <| ?_
 refine W.block ?_
 refine W.loop (α := Nat) (fun t => [(1, .pointer (some ⟨b1, 0, none⟩)), (3, .int .i64 (sumI (x.fDash.take t))), (64, .slice x.pfDash x.fDash.length x.cfDash), (65, .int .i64 (x.fDash.length : Int)), (66, .int .i64 (t : Int))]) (fun t w' => wb1 = w' ∧ t ≤ x.fDash.length ∧ ∀ j (hj : j < x.fDash.length), j < t → dashB x.fDash[j] = true) (fun t => x.fDash.length - t) (0) ⟨rfl, rfl, rfl, rfl, rfl, trivial⟩ (⟨rfl, Nat.zero_le _, fun j _ h => absurd h oO⟩) (fun t w1 hR => ?_)
 obtain ⟨i, rfl⟩ : ∃ i, i = t := ⟨t, rfl⟩
 obtain ⟨rfl, hi, hall⟩ := hR
 have hs := sum_bound _ (all_take hall)
 have hln : x.fDash.length ≤ 11 := by simp only [penH, Bool.or_eq_false_iff, decide_eq_false_iff_not] at hp; omega
 rw [← sumI_sum, List.length_take] at hs
 refine W.sr <| WL.p (.lss rfl rfl) rfl <| WL.nil <| ?_
 refine W.seq <| W.cond rfl (fun h19 => ?_) (fun h19 => ?_)
 have h19' := dT h19
 refine W.skip <| W.seq <| W.block <| W.sr <| WL.p (.ixb underlying82 sizeOf3 rfl rfl (hv2.isp oO) (i) (rfl) oO) rfl <| WL.r (Rd.ldc (isAgg3 _) rfl (hv2.cells (i) oO)) rfl <| WL.z rfl rfl ?_
 refine W.seq ?_
 refine W.cutB 76 (!dashB (x.fDash[i]'oO)) ?_ ?_
 refine W.reg <| WL.m rfl rfl <| WL.p (.lss rfl rfl) rfl <| WL.m rfl rfl <| WL.gd rfl rfl rfl (fun g20 => ?_) (fun g20 => ?_)
 have g20' := dF g20
 refine WL.m rfl rfl <| WL.gy rfl rfl rfl g20 <| WL.c1 hb195 rfl rfl ((fix_Fits _ _)) (fun w21 hw21 => ?_)
 obtain rfl := hw21
 refine WL.gy rfl rfl rfl g20 <| WL.p (.not rfl) rfl <| WL.p (.pkF rfl g20 rfl) rfl <| WL.nil <| ?_
 exact ⟨leE (lk_b rfl (by unfold dashB; simp_all <;> omega)), rfl⟩
 have g20' := dT g20
 refine WL.gn rfl rfl rfl g20 <| WL.gn rfl rfl rfl g20 <| WL.p (.pkT rfl g20 rfl) rfl <| WL.nil <| ?_
 exact ⟨leE (lk_b rfl (by unfold dashB; simp_all <;> omega)), rfl⟩
 refine W.cond rfl (fun h22 => ?_) (fun h22 => ?_)
 refine W.sr <| WL.z rfl rfl ?_
 refine W.ret (W.ret1 rfl rfl ?_)
 first
 | exact ⟨scr_val (by unfold penB; rw [show penH x = true by assumption]; rfl), hB4⟩
 | exact ⟨scr_val (by unfold penB; rw [all_not (q := dashB) (j := i) oO (by simpa using (show (!dashB (x.fDash[i]'oO)) = true by assumption)), Bool.and_false, Bool.false_and]), hB4⟩
 | exact ⟨scr_val (by rw [hpe, show x.fDash = [] from List.eq_nil_of_length_eq_zero oO]; rfl), hB4⟩
 | exact ⟨scr_val (by
   rw [hpe, List.take_of_length_le (show x.fDash.length ≤ i by omega)]
   have he : x.fDash.isEmpty = false := by rw [Bool.eq_false_iff]; intro hq; have := List.isEmpty_iff.1 hq; simp_all
   rw [he, Bool.false_or]
   exact congrArg Value.bool (Bool.eq_iff_iff.2 (decide_eq_true_iff.trans hs.2.2))), hB4⟩
 have hdb : dashB (x.fDash[i]'oO) = true := by simp_all
 have hdn := dash_le hdb
 refine W.skip <| W.reg <| WL.m rfl rfl <| WL.m rfl rfl <| WL.p (.iis (sumI (x.fDash.take (i + 1))) (.add rfl rfl (i64w oO)) (by rw [sumI_take oO])) rfl <| WL.z rfl rfl ?_
 refine W.reg <| WL.p (.iis (((i + 1 : Nat) : Int)) (.add rfl rfl (i64w oO)) oO) rfl <| WL.m rfl rfl <| WL.nil <| ?_
 exact ⟨i + 1, ⟨rfl, rfl, rfl, rfl, rfl, trivial⟩, ⟨rfl, by ((try simp only) <;> omega), fun j hj h => by
  rcases Nat.lt_succ_iff_lt_or_eq.1 h with h2 | rfl
  exact hall j hj h2
  simp_all⟩, by ((try simp only) <;> omega)⟩
 have h19' := dF h19
 have hd := all_of (q := dashB) (l := x.fDash) fun j hj => hall j hj oO
 have hpe : penB x = (x.fDash.isEmpty || x.fDash.any fun n => decide (0 < n)) := by unfold penB; rw [hp, hd]; rfl
 rw [List.take_of_length_le (show x.fDash.length ≤ i by omega)] at hs
 refine W.exit <| W.sr <| WL.p (.fa underlying84 rfl sizeOf82 dD rfl) rfl <| WL.r (Rd.ld (isAgg82 _) rfl hkb1 rfl) rfl <| WL.p (.lenS underlying82 rfl) rfl <| WL.p (.eql rfl rfl) rfl <| WL.m rfl rfl <| WL.gd rfl rfl rfl (fun g23 => ?_) (fun g23 => ?_)
 have g23' := dF g23
 refine WL.m rfl rfl <| WL.gy rfl rfl rfl g23 <| WL.p (.gtr rfl rfl) rfl <| WL.p (.pkF rfl g23 rfl) rfl <| WL.z rfl rfl ?_
 refine W.ret (W.ret1 rfl rfl ?_)
 first
 | exact ⟨scr_val (by unfold penB; rw [show penH x = true by assumption]; rfl), hB4⟩
 | exact ⟨scr_val (by unfold penB; rw [all_not (q := dashB) (j := i) oO (by simpa using (show (!dashB (x.fDash[i]'oO)) = true by assumption)), Bool.and_false, Bool.false_and]), hB4⟩
 | exact ⟨scr_val (by rw [hpe, show x.fDash = [] from List.eq_nil_of_length_eq_zero oO]; rfl), hB4⟩
 | exact ⟨scr_val (by
   rw [hpe, List.take_of_length_le (show x.fDash.length ≤ i by omega)]
   have he : x.fDash.isEmpty = false := by rw [Bool.eq_false_iff]; intro hq; have := List.isEmpty_iff.1 hq; simp_all
   rw [he, Bool.false_or]
   exact congrArg Value.bool (Bool.eq_iff_iff.2 (decide_eq_true_iff.trans hs.2.2))), hB4⟩
 have g23' := dT g23
 refine WL.gn rfl rfl rfl g23 <| WL.p (.pkT rfl g23 rfl) rfl <| WL.z rfl rfl ?_
 refine W.ret (W.ret1 rfl rfl ?_)
 first
 | exact ⟨scr_val (by unfold penB; rw [show penH x = true by assumption]; rfl), hB4⟩
 | exact ⟨scr_val (by unfold penB; rw [all_not (q := dashB) (j := i) oO (by simpa using (show (!dashB (x.fDash[i]'oO)) = true by assumption)), Bool.and_false, Bool.false_and]), hB4⟩
 | exact ⟨scr_val (by rw [hpe, show x.fDash = [] from List.eq_nil_of_length_eq_zero oO]; rfl), hB4⟩
 | exact ⟨scr_val (by
   rw [hpe, List.take_of_length_le (show x.fDash.length ≤ i by omega)]
   have he : x.fDash.isEmpty = false := by rw [Bool.eq_false_iff]; intro hq; have := List.isEmpty_iff.1 hq; simp_all
   rw [he, Bool.false_or]
   exact congrArg Value.bool (Bool.eq_iff_iff.2 (decide_eq_true_iff.trans hs.2.2))), hB4⟩
end
end Go.Proofs.YtjghbcjnplcleaaGreatDoor
