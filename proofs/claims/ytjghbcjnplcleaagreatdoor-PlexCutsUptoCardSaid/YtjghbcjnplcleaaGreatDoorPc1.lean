/-
  What the claim leans on, part 1: pruned and joined by my own tool out of the texts that stand in wip/ as templates.
-/
import Derived.WalkKit
import Derived.WalkSpells
import Derived.WalkLawsBesides
import Derived.Test.YtjghbcjnplcleaaGreatDoorRows
import Derived.Shelf.Strings.Builder1
import Derived.Shelf.Strings.Builder2
import Derived.Shelf.Strings.Trim
import Derived.Shelf.Small.Utf8
import Derived.Shelf.Small.Strs
import Derived.Shelf.Strings.BuilderF
import Derived.Shelf.Strings.BuilderK
import Derived.Shelf.Strings.Builder2Cap
import Derived.Shelf.Strconv.Itoa0
import Derived.Shelf.Strings.Search1
import Derived.Shelf.Strings.Search2
import Derived.Shelf.Strings.Search3
import Derived.Shelf.Strings.Cut
import Derived.Shelf.Strings.Count
import Derived.Shelf.LaysM
import Derived.Shelf.Strings.Shaped
import Derived.Shelf.Strings.Prefix
import Derived.Shelf.Unicode.Decode
import Derived.Shelf.Strings.Runes
import Derived.Shelf.Strings.IndexAny
import Derived.Shelf.Strings.AsciiSet
import Derived.Shelf.Strings.IndexAnyAll
import Derived.Shelf.Bits.Mul64
import Derived.Shelf.Strings.Repeat
import Derived.Shelf.Unicode.DecodeSlow
import Derived.Shelf.Unicode.DecodeAny
import Derived.Shelf.Unicode.DecodeLast
import Derived.Shelf.Strings.BuilderCap
import Derived.Test.YtjghbcjnplcleaaGreatDoorProg
import Derived.Shelf.Strings.SlTrimAscii
import Derived.Deep.QuietTactic
import Derived.BigQuiet
import Derived.Deep.DeepCutAuto
import Derived.StillTail
import Derived.Laws.BytesString
import Derived.Laws.Slices
import Derived.Carry
import Derived.ChangeSlices
import Derived.Lib.ConvBytes
import Derived.Laws.AppendOwn
import Derived.Laws.CopyRow
import Derived.Deep.MidRow
import Derived.Lib.SliceRun
import Derived.Recover
import Derived.Lib.AppendZerosOnto
import Derived.Laws.OwnMore
import Derived.Deep.Slices
import Derived.ProofKit
import Derived.OpenShut
import Derived.Lib.FrozenHead
import Derived.Lib.AppendStr
import Derived.Test.YtjghbcjnplcleaaGreatDoorCards
import Derived.Test.YtjghbcjnplcleaaGreatDoorTie
import Derived.Deep.DeepHandedRow
import Derived.Lib.LaidTab
namespace Go.Proofs.YtjghbcjnplcleaaGreatDoor
open Go.RowKit
open Go.Proofs.Tryz
section
theorem hid {p : Prop} (h : p) : Hid p := h
/-- a row of cells of one block, none of them frozen -/
def BRow (w : World) (b : Nat) (l : List Value) : Prop := ∀ j v, l[j]? = some v → w.cell? ⟨b, j, none⟩ = some v ∧ w.frozen? ⟨b, j, none⟩ = false
theorem BRow.set {w : World} {b : Nat} {l : List Value} (h : BRow w b l) (i : Nat) (v : Value) (hi : i < l.length) : BRow (w.setCell ⟨b, i, none⟩ v) b (l.set i v) := by
 intro j u hj
 rw [World.frozen?_setCell]
 by_cases e : i = j
 ·
  subst e
  rw [List.getElem?_set_self hi] at hj
  obtain rfl : v = u := by simpa using hj
  obtain ⟨h1, h2⟩ := h i l[i] (by simp [hi])
  exact ⟨World.cell?_setCell_same _ _ _ h1, h2⟩
 ·
  rw [List.getElem?_set_ne e] at hj
  obtain ⟨h1, h2⟩ := h j u hj
  rw [World.cell?_setCell_other _ _ _ _ (by intro h; simp at h)]
  exact ⟨h1, h2⟩
theorem BRow.below {w w' : World} {B b : Nat} {l : List Value} (h : BRow w b l) (hb : Below B w w') (hB : b < B) : BRow w' b l := by
 intro j u hj
 obtain ⟨h1, h2⟩ := h j u hj
 rw [hb.cell (p := ⟨b, j, none⟩) hB, hb.frozen (p := ⟨b, j, none⟩) hB]
 exact ⟨h1, h2⟩
/-- the cells of bytes -/
def byteVals (l : List UInt8) : List Value := l.map fun (c : UInt8) => Value.int .u8 (c.toNat : Int)
/-- one after the other -/
theorem btr {w w1 w2 : World} (h : Below w.heap.size w w1) (k : Below w1.heap.size w1 w2) : Below w.heap.size w w2 := h.trans (k.mono h.size)
theorem bdrewN (w : World) (q : Nat) : Below w.heap.size w (w.drewN q) := ⟨rfl, rfl, rfl, Nat.le_refl _, fun _ _ => rfl⟩
section
variable {P : Program}
theorem bytesRow_cell (w : World) (s : ByteArray) (cap : Nat) (e : TypeId) (hc : s.size ≤ cap) : BRow (w.drew.alloc (.cells (bytesRow s cap) e ((bytesRow s cap).size, (bytesRow s cap).size + 1))) w.heap.size (byteVals s.data.toList) := by
 intro j v hj
 have hj' : j < s.data.size := by
  rcases Nat.lt_or_ge j s.data.size with h | h
  ·
   exact h
  ·
   rw [List.getElem?_eq_none (by simpa [byteVals] using h)] at hj; cases hj
 have hsz : (bytesRow s cap).size = cap := by
  unfold bytesRow
  have e1 : s.data.size = s.size := rfl
  simp [e1]; omega
 constructor
 ·
  have h1 := World.cell?_alloc_mark w.drew (bytesRow s cap) e ((bytesRow s cap).size, (bytesRow s cap).size + 1) j
  have h2 := bytesRow_at s cap j hj'
  have e1 : w.drew.heap.size = w.heap.size := rfl
  rw [e1] at h1
  rw [h1, h2, ← hj]
  simp only [byteVals, List.getElem?_map, Array.getElem?_toList]
  rw [Array.getElem?_eq_getElem hj']; rfl
 ·
  have h1 := World.frozen?_alloc_mark w.drew (bytesRow s cap) e (bytesRow s cap).size ((bytesRow s cap).size + 1) j
  have e1 : w.drew.heap.size = w.heap.size := rfl
  rw [e1] at h1
  have e2 : s.data.size = s.size := rfl
  rw [h1, hsz]
  simp; omega
/-- []byte(s): a new row of bytes -/
theorem wpList_conv_bytes {ops : Array Oper} {rest : List Oper} {o : Oper} {a : Act} {Q : Exit → Act → World → Prop} {w : World} (hg : o.guard = none) (x : Operand) (ts tb te : TypeId) (hop : o.op = .convert ts tb x)
  (h1 : P.underlying ts = some .string) (h2 : P.underlying tb = some (.slice te)) (h3 : P.underlying te = some (.int .u8)) (s : ByteArray) (hx : a.eval x = .string s)
  (h : ∀ cap w', s.size ≤ cap → BRow w' w.heap.size (byteVals s.data.toList) → w.grownBy w' none → w'.heap.size = w.heap.size + 1 →
   wpList P ops Q rest (a.put o.dst (.slice (some ⟨w.heap.size, 0, none⟩) s.size cap)) w') : wpList P ops Q (o :: rest) a w := by
 refine wpList_plain hg fun K hK => ?_
 have hr := run_bytes_of_string (P := P) w ts tb te s h1 h2 h3
 unfold Oper.wp
 simp only [execOp, hop, hx, Sem.run_bind, hr, Result.andThen, Sem.run_pure, Oper.upon]
 refine hK _ _ (h _ _ (grownCap_ge w s.size 0 te) ?_ ?_ ?_)
 ·
  exact bytesRow_cell w s _ te (grownCap_ge w s.size 0 te)
 ·
  exact ⟨rfl, rfl, rfl, by simp, fun k hk _ => heap_alloc_old w.drew _ hk⟩
 ·
  simp
theorem below_of_grown {w w' : World} (h : w.grownBy w' none) : Below w.heap.size w w' :=
 (Below.refl _ _).grown h (Nat.le_refl _) (by intro k hk; cases hk)
end
end
section
def fitsB (n : Int) : Bool := decide (-2147483648 ≤ n) && decide (n ≤ 2147483647)
theorem fitsB_yes {n : Int} (h : -2147483648 ≤ n) (h' : n ≤ 2147483647) : fitsB n = true := by simp [fitsB, h, h']
theorem fitsB_lo {n : Int} (h : n < -2147483648) : fitsB n = false := by
 have : ¬ (-2147483648 ≤ n) := by omega
 simp [fitsB, this]
theorem fitsB_hi {n : Int} (h : 2147483647 < n) : fitsB n = false := by
 have : ¬ (n ≤ 2147483647) := by omega
 simp [fitsB, this]
set_option maxHeartbeats 400000 in
theorem fix_Fits (n : Int) (w : World) :
  Calls Tryz.prog 195 #[.int .i64 n] w fun e w' => e = .returned (.bool (fitsB n)) ∧ w = w' := by
 go_enter func195, ntmps195
 go_wp2
 ·
  go_ret
  have h : -2147483648 ≤ n := by assumption
  exact ⟨by simp [fitsB, h], rfl⟩
 ·
  go_ret
  have h : n < -2147483648 := by assumption
  exact ⟨by simp [fitsB_lo h], rfl⟩
set_option maxHeartbeats 400000 in
theorem ref_Fits (n : Int) (w : World) :
  Calls Tryz.prog 62 #[.int .i64 n] w fun e w' => e = .returned (.bool (fitsB n)) ∧ w = w' := by
 go_enter func62, ntmps62
 go_wp2
 ·
  go_ret
  have h : -2147483648 ≤ n := by assumption
  exact ⟨by simp [fitsB, h], rfl⟩
 ·
  go_ret
  have h : n < -2147483648 := by assumption
  exact ⟨by simp [fitsB_lo h], rfl⟩
/-- a byte, of a number -/
def ch (n : Int) : UInt8 := UInt8.ofNat n.toNat
def bs (l : List UInt8) : ByteArray := ⟨l.toArray⟩
theorem bs_append (a b : List UInt8) : bs a ++ bs b = bs (a ++ b) := by
 apply ByteArray.ext
 simp [bs]
theorem bs_size (l : List UInt8) : (bs l).size = l.length := by simp [bs, ByteArray.size]
/-- the digits of a number -/
def digitsL (n : Nat) : List UInt8 :=
 if n < 10 then [ch (48 + n)] else digitsL (n / 10) ++ [ch (48 + (n % 10 : Nat))]
termination_by n
theorem digitsL_lt (n : Nat) (h : n < 10) : digitsL n = [ch (48 + n)] := by rw [digitsL, if_pos h]
theorem digitsL_ge (n : Nat) (h : 10 ≤ n) : digitsL n = digitsL (n / 10) ++ [ch (48 + (n % 10 : Nat))] := by rw [digitsL, if_neg (by omega)]
theorem digitsL_len (k : Nat) : ∀ n : Nat, n < 10 ^ (k + 1) → (digitsL n).length ≤ k + 1 := by
  induction k with
  | zero => intro n h; rw [digitsL, if_pos (by simpa using h)]; simp
  | succ k ih =>
    intro n h
    rw [digitsL]
    split
    · simp
    · have := ih (n / 10) (by rw [Nat.pow_succ] at h; omega)
      simp; omega
theorem digitsL_size (n : Nat) (h : n < 18446744073709551616) : (bs (digitsL n)).size ≤ 20 := by
 rw [bs_size]; exact digitsL_len 19 n (Nat.lt_trans h (by decide))
/-- string([]byte(c)), the slice just laid -/
theorem byte_str (w : World) (x : Int) : (convert 22 9 (.slice (some ⟨w.heap.size, 0, none⟩) 1 1)).run Tryz.prog (w.alloc (.cells #[.int .u8 x] 5)) =
    .ok (.string (bs [ch x])) (w.alloc (.cells #[.int .u8 x] 5)) := by
  have h := run_convert_bytes_arg (P := Tryz.prog) (w.alloc (.cells #[.int .u8 x] 5)) 22 5 underlying22 underlying5 w.heap.size 0 1 1 [x] rfl
    (by intro i hi; obtain rfl : i = 0 := by omega
        go_simp) 9 underlying9
  exact h
set_option maxHeartbeats 400000 in
theorem ref_udec (n : Nat) (w : World) (hn : n < 18446744073709551616):
    Calls Tryz.prog 64 #[.int .u64 n] w fun e w' => e = .returned (.string (bs (digitsL n))) ∧ Below w.heap.size w w' := by
  have hbyte := byte_str
  go_enter func64, ntmps64
  go_wp2_with fail
  go_loopw [0, 3] (fun u s wr => ∃ (m : Nat) (t : List UInt8), m < 18446744073709551616 ∧ u = .int .u64 m ∧ s = .string (bs t) ∧ Below w.heap.size w wr ∧ t.length + (digitsL m).length ≤ 20 ∧ digitsL n = digitsL m ++ t) (fun u _ _ => (intOf u).toNat)
  case atStart => exact ⟨n, [], hn, rfl, rfl, Below.refl _ _, by have := digitsL_size n hn; rw [bs_size] at this; simpa using this, by simp⟩
  case round =>
    obtain ⟨m, t, hm, rfl, rfl, hb, hl, hd⟩ := hrel
    have Hd := hid hd; clear hd
    have hs : (bs t).size ≤ 20 := by rw [bs_size]; omega
    have hs1 : (bs [ch (48 + (m : Int) % 10)]).size ≤ 1 := by rw [bs_size]; simp
    have hsz := hb.size
    by_cases h10 : m < 10
    · have hz : (((m : Int) / 10) == 0) = true := by rw [beq_iff_eq]; omega
      go_wp2
      go_ret
      have e : (m : Int) % 10 = (m : Int) := by omega
      exact ⟨by rw [Hd.out, digitsL_lt m h10, ← bs_append, e]; rfl, hb.alloc hsz _⟩
    · have hz : (((m : Int) / 10) == 0) = false := by rw [beq_eq_false_iff_ne]; omega
      have hg := digitsL_ge m (by omega)
      have Hg := hid hg; clear hg
      go_wp2
      refine ⟨⟨m / 10, ch (48 + ((m % 10 : Nat) : Int)) :: t, by omega, by go_num, by rw [bs_append]; simp, hb.alloc hsz _, ?_, ?_⟩, by simp [intOf]; omega⟩
      · have := congrArg List.length Hg.out
        simp at this ⊢; omega
      · rw [Hd.out, Hg.out]; simp
theorem ref_udecI (n : Int) (w : World) (h0 : 0 ≤ n) (hn : n < 18446744073709551616):
  Calls Tryz.prog 64 #[.int .u64 n] w fun e w' => e = .returned (.string (bs (digitsL n.toNat))) ∧ Below w.heap.size w w' := by
 have h := ref_udec n.toNat w (by omega)
 rw [Int.toNat_of_nonneg h0] at h
 exact h
/-- a whole number's digits, with its sign -/
def decL (n : Int) : List UInt8 := if n < 0 then 45 :: digitsL n.natAbs else digitsL n.natAbs
set_option maxHeartbeats 400000 in
theorem ref_Dec (n : Int) (w : World) (h : -9223372036854775808 ≤ n) (h' : n ≤ 9223372036854775807) :
    Calls Tryz.prog 37 #[.int .i64 n] w fun e w' => e = .returned (.string (bs (decL n))) ∧ Below w.heap.size w w' := by
  by_cases hn : n < 0
  · have hs1 := digitsL_size (-(n + 1) + 1).toNat (by omega)
    go_enter func37, ntmps37
    go_wp2_with (go_at_call 64; refine (ref_udecI _ _ (by omega) (by omega)).mono ?_; rintro e w' ⟨rfl, hb⟩)
    go_ret
    have e1 : (-(n + 1) + 1).toNat = n.natAbs := by omega
    refine ⟨?_, hb⟩
    rw [decL, if_pos hn, ← e1]
    show Ending.returned (.string (bs [45] ++ bs _)) = _
    rw [bs_append]; rfl
  · go_enter func37, ntmps37
    go_wp2_with (go_at_call 64; refine (ref_udecI _ _ (by omega) (by omega)).mono ?_; rintro e w' ⟨rfl, hb⟩)
    go_ret
    have e1 : n.toNat = n.natAbs := by omega
    refine ⟨?_, hb⟩
    rw [decL, if_neg (by omega), ← e1]
    rfl
theorem decL_size (n : Int) (h : -9223372036854775808 ≤ n) (h' : n ≤ 9223372036854775807) : (bs (decL n)).size ≤ 21 := by
 have := digitsL_size n.natAbs (by omega)
 rw [bs_size] at *
 unfold decL; split <;> simp <;> omega
end
section
/-- digits behind the point, at most so many -/
def fracK : Nat → Nat → List UInt8
 | 0, _ => []
 | k + 1, f => if f = 0 then [] else ch (48 + ((f * 10 / 65536 : Nat) : Int)) :: fracK k (f * 10 % 65536)
theorem fracK_stable (k : Nat) : ∀ f : Nat, k ≤ 16 → f < 65536 → 2 ^ (16 - k) ∣ f → fracK k f = fracK (k + 1) f := by
  induction k with
  | zero =>
    intro f _ hf hd
    obtain ⟨c, hc⟩ := hd
    have : f = 0 := by simp at hc; omega
    simp [fracK, this]
  | succ k ih =>
    intro f hk hf hd
    rw [fracK, fracK]
    split
    · rfl
    · rw [ih (f * 10 % 65536) (by omega) (by omega)]
      have e : 16 - k = (16 - (k + 1)) + 1 := by omega
      have h1 : 2 ^ (16 - k) ∣ f * 10 := by
        rw [e, Nat.pow_succ]
        exact Nat.mul_dvd_mul hd ⟨5, rfl⟩
      have h2 : 2 ^ (16 - k) ∣ 65536 := by
        rw [show (65536 : Nat) = 2 ^ 16 from rfl]
        exact Nat.pow_dvd_pow 2 (by omega)
      exact (Nat.dvd_mod_iff h2).2 h1
def fracL (f : Nat) : List UInt8 := fracK 16 f
theorem fracL_zero : fracL 0 = [] := rfl
theorem fracL_step (f : Nat) (h0 : 0 < f) (h : f < 65536) : fracL f = ch (48 + ((f * 10 / 65536 : Nat) : Int)) :: fracL (f * 10 % 65536) := by
 unfold fracL
 rw [fracK, if_neg (by omega), fracK_stable 15 (f * 10 % 65536) (by omega) (by omega) (by
  have h1 : 2 ^ (16 - 15) ∣ f * 10 := ⟨f * 5, by omega⟩
  exact (Nat.dvd_mod_iff (by decide)).2 h1)]
theorem fracK_len (k : Nat) : ∀ f, (fracK k f).length ≤ k := by
 induction k with
 | zero => intro f; simp [fracK]
 | succ k ih =>
  intro f; rw [fracK]; split
  ·
   simp
  ·
   have := ih (f * 10 % 65536); simp; omega
theorem fracL_len (f : Nat) : (fracL f).length ≤ 16 := fracK_len 16 f
end
end Go.Proofs.YtjghbcjnplcleaaGreatDoor
namespace Go.Proofs
open Go.Proofs.Tryz
open Go.Shelf
def Tryz.lays161_ren : Go.Shelf.Ren := ⟨fun | 161 => 210 | 231 => 166 | 227 => 168 | 233 => 169 | 235 => 171 | 228 => 215 | 197 => 184 | 151 => 217 | 260 => 222 | 152 => 213 | 137 => 60 | 119 => 242 | 224 => 224 | 225 => 223 | 217 => 103 | 266 => 148 | n => n, fun | 9 => 9 | 4 => 4 | 3 => 3 | 5 => 5 | 117 => 202 | 116 => 201 | 0 => 0 | 124 => 205 | 105 => 216 | 21 => 21 | 119 => 249 | 46 => 139 | 139 => 252 | 138 => 251 | n => n, fun | 3 => 2 | 4 => 3 | n => n⟩
theorem Tryz.lays161 : Go.Proofs.Lays.n161 Tryz.prog Tryz.lays161_ren := {
 mixed := by kernel_rfl
 f119 := func242.trans (congrArg some (by kernel_rfl))
 f137 := func60.trans (congrArg some (by kernel_rfl))
 f151 := func217.trans (congrArg some (by kernel_rfl))
 f152 := func213.trans (congrArg some (by kernel_rfl))
 f161 := func210.trans (congrArg some (by kernel_rfl))
 f197 := func184.trans (congrArg some (by kernel_rfl))
 f217 := func103.trans (congrArg some (by kernel_rfl))
 f224 := func224.trans (congrArg some (by kernel_rfl))
 f225 := func223.trans (congrArg some (by kernel_rfl))
 f227 := func168.trans (congrArg some (by kernel_rfl))
 f228 := func215.trans (congrArg some (by kernel_rfl))
 f231 := func166.trans (congrArg some (by kernel_rfl))
 f233 := func169.trans (congrArg some (by kernel_rfl))
 f235 := func171.trans (congrArg some (by kernel_rfl))
 f260 := func222.trans (congrArg some (by kernel_rfl))
 f266 := func148.trans (congrArg some (by kernel_rfl))
 t0 := underlying0
 a0 := isAgg0
 z0 := sizeOf0
 v0 := zeroValue0
 t3 := underlying3
 a3 := isAgg3
 z3 := sizeOf3
 v3 := zeroValue3
 t4 := underlying4
 a4 := isAgg4
 z4 := sizeOf4
 v4 := zeroValue4
 t5 := underlying5
 a5 := isAgg5
 z5 := sizeOf5
 v5 := zeroValue5
 t9 := underlying9
 a9 := isAgg9
 z9 := sizeOf9
 v9 := zeroValue9
 t21 := underlying21
 a21 := isAgg21
 z21 := sizeOf21
 v21 := zeroValue21
 t46 := underlying139
 a46 := isAgg139
 z46 := sizeOf139
 v46 := zeroValue139
 t105 := underlying216
 a105 := isAgg216
 z105 := sizeOf216
 v105 := zeroValue216
 t116 := underlying201
 a116 := isAgg201
 z116 := sizeOf201
 t117 := underlying202
 a117 := isAgg202
 z117 := sizeOf202
 v117 := zeroValue202
 t119 := underlying249
 a119 := isAgg249
 z119 := sizeOf249
 t124 := underlying205
 a124 := isAgg205
 z124 := sizeOf205
 v124 := zeroValue205
 t138 := underlying251
 a138 := isAgg251
 z138 := sizeOf251
 v138 := zeroValue251
 t139 := underlying252
 a139 := isAgg252
 z139 := sizeOf252
 v139 := zeroValue252
 g3 := by kernel_rfl
 g4 := by kernel_rfl }
open Go.RowKit in
theorem Tryz.strings_TrimLeft_one (s : ByteArray) (c : UInt8) (hc : c.toNat < 128) (w : World) :
  Calls Tryz.prog 210 #[.string s, .string ⟨#[c]⟩] w fun e w' => e = .returned (.string ⟨(Lib.trimLeftB s.data.toList c).toArray⟩) ∧ w' = w := Any.strings_TrimLeft_one Tryz.lays161 s c hc w
def Tryz.lays160_ren : Go.Shelf.Ren := ⟨fun | 160 => 116 | 232 => 167 | 231 => 166 | 227 => 168 | 234 => 170 | 233 => 169 | 236 => 172 | 235 => 171 | 228 => 215 | 271 => 218 | 151 => 217 | 197 => 184 | 120 => 246 | 152 => 213 | 260 => 222 | 137 => 60 | 119 => 242 | 224 => 224 | 225 => 223 | 217 => 103 | 266 => 148 | n => n, fun | 9 => 9 | 4 => 4 | 3 => 3 | 5 => 5 | 117 => 202 | 116 => 201 | 0 => 0 | 124 => 205 | 21 => 21 | 105 => 216 | 46 => 139 | 119 => 249 | 139 => 252 | 138 => 251 | n => n, fun | 3 => 2 | 4 => 3 | n => n⟩
theorem Tryz.lays160 : Go.Proofs.Lays.n160 Tryz.prog Tryz.lays160_ren := {
 mixed := by kernel_rfl
 f119 := func242.trans (congrArg some (by kernel_rfl))
 f120 := func246.trans (congrArg some (by kernel_rfl))
 f137 := func60.trans (congrArg some (by kernel_rfl))
 f151 := func217.trans (congrArg some (by kernel_rfl))
 f152 := func213.trans (congrArg some (by kernel_rfl))
 f160 := func116.trans (congrArg some (by kernel_rfl))
 f197 := func184.trans (congrArg some (by kernel_rfl))
 f217 := func103.trans (congrArg some (by kernel_rfl))
 f224 := func224.trans (congrArg some (by kernel_rfl))
 f225 := func223.trans (congrArg some (by kernel_rfl))
 f227 := func168.trans (congrArg some (by kernel_rfl))
 f228 := func215.trans (congrArg some (by kernel_rfl))
 f231 := func166.trans (congrArg some (by kernel_rfl))
 f232 := func167.trans (congrArg some (by kernel_rfl))
 f233 := func169.trans (congrArg some (by kernel_rfl))
 f234 := func170.trans (congrArg some (by kernel_rfl))
 f235 := func171.trans (congrArg some (by kernel_rfl))
 f236 := func172.trans (congrArg some (by kernel_rfl))
 f260 := func222.trans (congrArg some (by kernel_rfl))
 f266 := func148.trans (congrArg some (by kernel_rfl))
 f271 := func218.trans (congrArg some (by kernel_rfl))
 t0 := underlying0
 a0 := isAgg0
 z0 := sizeOf0
 v0 := zeroValue0
 t3 := underlying3
 a3 := isAgg3
 z3 := sizeOf3
 v3 := zeroValue3
 t4 := underlying4
 a4 := isAgg4
 z4 := sizeOf4
 v4 := zeroValue4
 t5 := underlying5
 a5 := isAgg5
 z5 := sizeOf5
 v5 := zeroValue5
 t9 := underlying9
 a9 := isAgg9
 z9 := sizeOf9
 v9 := zeroValue9
 t21 := underlying21
 a21 := isAgg21
 z21 := sizeOf21
 v21 := zeroValue21
 t46 := underlying139
 a46 := isAgg139
 z46 := sizeOf139
 v46 := zeroValue139
 t105 := underlying216
 a105 := isAgg216
 z105 := sizeOf216
 v105 := zeroValue216
 t116 := underlying201
 a116 := isAgg201
 z116 := sizeOf201
 t117 := underlying202
 a117 := isAgg202
 z117 := sizeOf202
 v117 := zeroValue202
 t119 := underlying249
 a119 := isAgg249
 z119 := sizeOf249
 t124 := underlying205
 a124 := isAgg205
 z124 := sizeOf205
 v124 := zeroValue205
 t138 := underlying251
 a138 := isAgg251
 z138 := sizeOf251
 v138 := zeroValue251
 t139 := underlying252
 a139 := isAgg252
 z139 := sizeOf252
 v139 := zeroValue252
 g3 := by kernel_rfl
 g4 := by kernel_rfl }
def Tryz.lays119_ren : Go.Shelf.Ren := ⟨fun | 119 => 242 | n => n, fun | 21 => 21 | 4 => 4 | n => n, fun | n => n⟩
theorem Tryz.lays119 : Go.Proofs.Lays.n119 Tryz.prog Tryz.lays119_ren := {
 mixed := by kernel_rfl
 f119 := func242.trans (congrArg some (by kernel_rfl))
 t4 := underlying4
 a4 := isAgg4
 z4 := sizeOf4
 v4 := zeroValue4
 t21 := underlying21
 a21 := isAgg21
 z21 := sizeOf21
 v21 := zeroValue21 }
theorem Tryz.utf8_ValidRune (r : Int) (w : World) :
  Calls Tryz.prog 242 #[.int .i32 r] w fun e w' => e = .returned (.bool (Lib.validRune r)) ∧ w' = w := Any.utf8_ValidRune Tryz.lays119 r w
def Tryz.lays137_ren : Go.Shelf.Ren := ⟨fun | 137 => 60 | 217 => 103 | 266 => 148 | n => n, fun | 9 => 9 | 5 => 5 | 3 => 3 | n => n, fun | n => n⟩
theorem Tryz.lays137 : Go.Proofs.Lays.n137 Tryz.prog Tryz.lays137_ren := {
 mixed := by kernel_rfl
 f137 := func60.trans (congrArg some (by kernel_rfl))
 f217 := func103.trans (congrArg some (by kernel_rfl))
 f266 := func148.trans (congrArg some (by kernel_rfl))
 t3 := underlying3
 a3 := isAgg3
 z3 := sizeOf3
 v3 := zeroValue3
 t5 := underlying5
 a5 := isAgg5
 z5 := sizeOf5
 v5 := zeroValue5
 t9 := underlying9
 a9 := isAgg9
 z9 := sizeOf9
 v9 := zeroValue9 }
open Go.RowKit in
theorem Tryz.strings_IndexByte (s : ByteArray) (c : Int) (w : World) :
  Calls Tryz.prog 60 #[.string s, .int .u8 c] w fun e w' => e = .returned (.int .i64 (Lib.indexByte s.data.toList c.toNat.toUInt8)) ∧ w' = w := Any.strings_IndexByte Tryz.lays137 s c w
def Tryz.lays219_ren : Go.Shelf.Ren := ⟨fun | 219 => 186 | 217 => 103 | 225 => 223 | 224 => 224 | 267 => 225 | 266 => 148 | 314 => 248 | n => n, fun | 9 => 9 | 3 => 3 | 4 => 4 | 5 => 5 | 46 => 139 | 146 => 254 | 51 => 253 | n => n, fun | 1 => 0 | n => n⟩
theorem Tryz.lays219 : Go.Proofs.Lays.n219 Tryz.prog Tryz.lays219_ren := {
 mixed := by kernel_rfl
 f217 := func103.trans (congrArg some (by kernel_rfl))
 f219 := func186.trans (congrArg some (by kernel_rfl))
 f224 := func224.trans (congrArg some (by kernel_rfl))
 f225 := func223.trans (congrArg some (by kernel_rfl))
 f266 := func148.trans (congrArg some (by kernel_rfl))
 f267 := func225.trans (congrArg some (by kernel_rfl))
 f314 := func248.trans (congrArg some (by kernel_rfl))
 t3 := underlying3
 a3 := isAgg3
 z3 := sizeOf3
 v3 := zeroValue3
 t4 := underlying4
 a4 := isAgg4
 z4 := sizeOf4
 v4 := zeroValue4
 t5 := underlying5
 a5 := isAgg5
 z5 := sizeOf5
 v5 := zeroValue5
 t9 := underlying9
 a9 := isAgg9
 z9 := sizeOf9
 v9 := zeroValue9
 t46 := underlying139
 a46 := isAgg139
 z46 := sizeOf139
 v46 := zeroValue139
 t51 := underlying253
 a51 := isAgg253
 z51 := sizeOf253
 v51 := zeroValue253
 t146 := underlying254
 a146 := isAgg254
 z146 := sizeOf254
 v146 := zeroValue254
 g1 := by kernel_rfl }
open Go.RowKit Go.Lib in
theorem Tryz.stringslite_Index_one (s : ByteArray) (c : UInt8) (w : World) :
  Calls Tryz.prog 186 #[.string s, .string ⟨#[c]⟩] w fun e w' => e = .returned (.int .i64 (Lib.indexByte s.data.toList c)) ∧ w' = w := Any.stringslite_Index_one Tryz.lays219 s c w
def Tryz.lays152_ren : Go.Shelf.Ren := ⟨fun | 152 => 213 | 137 => 60 | 119 => 242 | 224 => 224 | 225 => 223 | 217 => 103 | 266 => 148 | n => n, fun | 9 => 9 | 21 => 21 | 3 => 3 | 4 => 4 | 5 => 5 | 0 => 0 | 46 => 139 | n => n, fun | n => n⟩
theorem Tryz.lays152 : Go.Proofs.Lays.n152 Tryz.prog Tryz.lays152_ren := {
 mixed := by kernel_rfl
 f119 := func242.trans (congrArg some (by kernel_rfl))
 f137 := func60.trans (congrArg some (by kernel_rfl))
 f152 := func213.trans (congrArg some (by kernel_rfl))
 f217 := func103.trans (congrArg some (by kernel_rfl))
 f224 := func224.trans (congrArg some (by kernel_rfl))
 f225 := func223.trans (congrArg some (by kernel_rfl))
 f266 := func148.trans (congrArg some (by kernel_rfl))
 t0 := underlying0
 a0 := isAgg0
 z0 := sizeOf0
 v0 := zeroValue0
 t3 := underlying3
 a3 := isAgg3
 z3 := sizeOf3
 v3 := zeroValue3
 t4 := underlying4
 a4 := isAgg4
 z4 := sizeOf4
 v4 := zeroValue4
 t5 := underlying5
 a5 := isAgg5
 z5 := sizeOf5
 v5 := zeroValue5
 t9 := underlying9
 a9 := isAgg9
 z9 := sizeOf9
 v9 := zeroValue9
 t21 := underlying21
 a21 := isAgg21
 z21 := sizeOf21
 v21 := zeroValue21
 t46 := underlying139
 a46 := isAgg139
 z46 := sizeOf139
 v46 := zeroValue139 }
open Go.RowKit Go.Lib in
theorem Tryz.strings_IndexRune_ascii (s : ByteArray) (r : Int) (w : World) (h0 : 0 ≤ r) (h1 : r < 128) :
  Calls Tryz.prog 213 #[.string s, .int .i32 r] w fun e w' => e = .returned (.int .i64 (Lib.indexByte s.data.toList r.toNat.toUInt8)) ∧ w' = w := Any.strings_IndexRune_ascii Tryz.lays152 s r w h0 h1
def Tryz.lays226_ren : Go.Shelf.Ren := ⟨fun | 226 => 214 | n => n, fun | 3 => 3 | 4 => 4 | n => n, fun | n => n⟩
theorem Tryz.lays226 : Go.Proofs.Lays.n226 Tryz.prog Tryz.lays226_ren := {
 mixed := by kernel_rfl
 f226 := func214.trans (congrArg some (by kernel_rfl))
 t3 := underlying3
 a3 := isAgg3
 z3 := sizeOf3
 v3 := zeroValue3
 t4 := underlying4
 a4 := isAgg4
 z4 := sizeOf4
 v4 := zeroValue4 }
open Go.RowKit Go.Lib in
theorem Tryz.strings_shouldUseASCIISet (n : Int) (w : World) :
  Calls Tryz.prog 214 #[.int .i64 n] w fun e w' => e = .returned (.bool (decide (8 < n))) ∧ w' = w := Any.strings_shouldUseASCIISet Tryz.lays226 n w
def Tryz.lays153_ren : Go.Shelf.Ren := ⟨fun | 153 => 163 | 152 => 213 | 226 => 214 | 227 => 168 | 228 => 215 | 137 => 60 | 119 => 242 | 224 => 224 | 225 => 223 | 217 => 103 | 266 => 148 | n => n, fun | 9 => 9 | 3 => 3 | 4 => 4 | 5 => 5 | 21 => 21 | 117 => 202 | 116 => 201 | 0 => 0 | 46 => 139 | 124 => 205 | n => n, fun | n => n⟩
theorem Tryz.lays153 : Go.Proofs.Lays.n153 Tryz.prog Tryz.lays153_ren := {
 mixed := by kernel_rfl
 f119 := func242.trans (congrArg some (by kernel_rfl))
 f137 := func60.trans (congrArg some (by kernel_rfl))
 f152 := func213.trans (congrArg some (by kernel_rfl))
 f153 := func163.trans (congrArg some (by kernel_rfl))
 f217 := func103.trans (congrArg some (by kernel_rfl))
 f224 := func224.trans (congrArg some (by kernel_rfl))
 f225 := func223.trans (congrArg some (by kernel_rfl))
 f226 := func214.trans (congrArg some (by kernel_rfl))
 f227 := func168.trans (congrArg some (by kernel_rfl))
 f228 := func215.trans (congrArg some (by kernel_rfl))
 f266 := func148.trans (congrArg some (by kernel_rfl))
 t0 := underlying0
 a0 := isAgg0
 z0 := sizeOf0
 v0 := zeroValue0
 t3 := underlying3
 a3 := isAgg3
 z3 := sizeOf3
 v3 := zeroValue3
 t4 := underlying4
 a4 := isAgg4
 z4 := sizeOf4
 v4 := zeroValue4
 t5 := underlying5
 a5 := isAgg5
 z5 := sizeOf5
 v5 := zeroValue5
 t9 := underlying9
 a9 := isAgg9
 z9 := sizeOf9
 v9 := zeroValue9
 t21 := underlying21
 a21 := isAgg21
 z21 := sizeOf21
 v21 := zeroValue21
 t46 := underlying139
 a46 := isAgg139
 z46 := sizeOf139
 v46 := zeroValue139
 t116 := underlying201
 a116 := isAgg201
 z116 := sizeOf201
 t117 := underlying202
 a117 := isAgg202
 z117 := sizeOf202
 v117 := zeroValue202
 t124 := underlying205
 a124 := isAgg205
 z124 := sizeOf205
 v124 := zeroValue205 }
open Go.RowKit Go.Lib in
theorem Tryz.strings_IndexAny_long (hv116 : ∀ w, (zeroValue 201).run Tryz.prog w = .ok (.agg (Array.replicate 256 (.bool false))) w) (s chars : ByteArray) (w : World) (h2 : 2 ≤ chars.size) (h8 : 8 < s.size) (hs : s.size < 4294967281) (hcs : chars.size < 4294967281) (hascii : ∀ (j : Nat) b, chars.data.toList[j]? = some b → b.toNat < 128) :
  Calls Tryz.prog 163 #[.string s, .string chars] w fun e w' => e = .returned (.int .i64 (Lib.indexAny s.data.toList chars.data.toList)) ∧ w' = ((w.alloc (.cells (Lib.setCells chars.data.toList) 201)).alloc (.cells (Lib.setCells chars.data.toList) 201)) := Any.strings_IndexAny_long Tryz.lays153 hv116 (by kernel_rfl) s chars w h2 h8 hs hcs hascii
def Tryz.lays105_ren : Go.Shelf.Ren := ⟨fun | 105 => 216 | 212 => 243 | 99 => 244 | 165 => 245 | 166 => 83 | 170 => 87 | 169 => 88 | 263 => 258 | 264 => 259 | 206 => 254 | 240 => 119 | 241 => 260 | 276 => 177 | 277 => 267 | n => n, fun | 9 => 9 | 3 => 3 | 4 => 4 | 20 => 20 | 0 => 0 | 46 => 139 | 109 => 245 | 5 => 5 | 72 => 113 | 76 => 118 | 51 => 253 | 146 => 254 | 53 => 100 | 148 => 264 | 70 => 111 | 37 => 22 | 75 => 117 | 127 => 160 | 164 => 209 | 80 => 103 | n => n, fun | n => n⟩
theorem Tryz.lays105 : Go.Proofs.Lays.n105 Tryz.prog Tryz.lays105_ren := {
 mixed := by kernel_rfl
 f99 := func244.trans (congrArg some (by kernel_rfl))
 f105 := func216.trans (congrArg some (by kernel_rfl))
 f165 := func245.trans (congrArg some (by kernel_rfl))
 f166 := func83.trans (congrArg some (by kernel_rfl))
 f169 := func88.trans (congrArg some (by kernel_rfl))
 f170 := func87.trans (congrArg some (by kernel_rfl))
 f206 := func254.trans (congrArg some (by kernel_rfl))
 f212 := func243.trans (congrArg some (by kernel_rfl))
 f240 := func119.trans (congrArg some (by kernel_rfl))
 f241 := func260.trans (congrArg some (by kernel_rfl))
 f263 := func258.trans (congrArg some (by kernel_rfl))
 f264 := func259.trans (congrArg some (by kernel_rfl))
 f276 := func177.trans (congrArg some (by kernel_rfl))
 f277 := func267.trans (congrArg some (by kernel_rfl))
 t0 := underlying0
 a0 := isAgg0
 z0 := sizeOf0
 v0 := zeroValue0
 t3 := underlying3
 a3 := isAgg3
 z3 := sizeOf3
 v3 := zeroValue3
 t4 := underlying4
 a4 := isAgg4
 z4 := sizeOf4
 v4 := zeroValue4
 t5 := underlying5
 a5 := isAgg5
 z5 := sizeOf5
 v5 := zeroValue5
 t9 := underlying9
 a9 := isAgg9
 z9 := sizeOf9
 v9 := zeroValue9
 t20 := underlying20
 a20 := isAgg20
 z20 := sizeOf20
 v20 := zeroValue20
 t37 := underlying22
 a37 := isAgg22
 z37 := sizeOf22
 v37 := zeroValue22
 t46 := underlying139
 a46 := isAgg139
 z46 := sizeOf139
 v46 := zeroValue139
 t51 := underlying253
 a51 := isAgg253
 z51 := sizeOf253
 v51 := zeroValue253
 t53 := underlying100
 a53 := isAgg100
 z53 := sizeOf100
 v53 := zeroValue100
 t70 := underlying111
 a70 := isAgg111
 z70 := sizeOf111
 v70 := zeroValue111
 t72 := underlying113
 a72 := isAgg113
 z72 := sizeOf113
 v72 := zeroValue113
 t75 := underlying117
 a75 := isAgg117
 z75 := sizeOf117
 v75 := zeroValue117
 t76 := underlying118
 a76 := isAgg118
 z76 := sizeOf118
 v76 := zeroValue118
 t109 := underlying245
 a109 := isAgg245
 z109 := sizeOf245
 v109 := zeroValue245
 t127 := underlying160
 a127 := isAgg160
 z127 := sizeOf160
 v127 := zeroValue160
 t146 := underlying254
 a146 := isAgg254
 z146 := sizeOf254
 v146 := zeroValue254
 t148 := underlying264
 a148 := isAgg264
 z148 := sizeOf264
 v148 := zeroValue264
 t164 := underlying209
 a164 := isAgg209
 z164 := sizeOf209
 v164 := zeroValue209 }
theorem Tryz.Builder_Extra_105 : Builder.Extra Tryz.prog Tryz.lays105_ren := {
 sizeBuilder := by kernel_rfl
 liesBuilder := by kernel_rfl
 t5 := underlying5
 a5 := isAgg5
 z5 := sizeOf5
 v5 := zeroValue5
 infoByte := by kernel_rfl
 cellsByte := by kernel_rfl
 sizeByte := by kernel_rfl
 neB5 := by decide }
open Go.RowKit Go.Lib in
theorem Tryz.strings_Repeat (s : ByteArray) (c : Nat) (w : World) (hc : c ≤ 9223372036854775807) (hlen : s.size * c ≤ 140737488355328) :
  Calls Tryz.prog 216 #[.string s, .int .i64 c] w fun e w' => e = .returned (.string ⟨(Lib.repeatL s.data.toList c).toArray⟩) ∧ Below w.heap.size w w' := Any.strings_Repeat Tryz.lays105 Tryz.Builder_Extra_105 s c w hc hlen
end Go.Proofs
namespace Go.Proofs.YtjghbcjnplcleaaGreatDoor
open Go.RowKit
open Go.Proofs.Tryz
section
theorem bs_toList (l : List UInt8) : (bs l).toList = l := by simp [bs]
theorem trimLeft0 (l : List UInt8) (w : World) :
  Calls Tryz.prog 210 #[.string (bs l), .string ⟨#[48]⟩] w fun e w' => e = .returned (.string (bs (l.dropWhile (· == 48)))) ∧ w = w' :=
 (Tryz.strings_TrimLeft_one (bs l) 48 (by decide) w).mono fun _ _ ⟨h1, h2⟩ => ⟨h1, h2.symm⟩
theorem bs_extract (l : List UInt8) (a b : Nat) : (bs l).extract a b = bs ((l.drop a).take (b - a)) := by
 apply ByteArray.ext
 simp [bs, ByteArray.data_extract]
theorem indexByte_yes (c : UInt8) (B : List UInt8) : ∀ A : List UInt8, c ∉ A → Lib.indexByte (A ++ c :: B) c = (A.length : Int)
 | [], _ => by simp [Lib.indexByte]
 | b :: A, h => by
  simp only [List.mem_cons, not_or] at h
  have ih := indexByte_yes c B A h.2
  have e3 : (b == c) = false := by rw [beq_eq_false_iff_ne]; exact fun e => h.1 e.symm
  have e4 : ((A.length : Int) == -1) = false := by rw [beq_eq_false_iff_ne]; omega
  simp [Lib.indexByte, e3, ih]
theorem indexByte_no (c : UInt8) : ∀ l : List UInt8, c ∉ l → Lib.indexByte l c = -1
 | [], _ => rfl
 | b :: l, h => by
  simp only [List.mem_cons, not_or] at h
  have ih := indexByte_no c l h.2
  have e3 : (b == c) = false := by rw [beq_eq_false_iff_ne]; exact fun e => h.1 e.symm
  simp [Lib.indexByte, e3, ih]
/-- where a byte is, and what is ahead of it and behind it -/
theorem split_at (c : UInt8) : ∀ l : List UInt8, c ∈ l → ∃ A B, l = A ++ c :: B ∧ c ∉ A
 | [], h => by cases h
 | b :: l, h => by
  by_cases e : c = b
  ·
   exact ⟨[], l, by rw [e]; rfl, by simp⟩
  ·
   rcases List.mem_cons.1 h with h | h
   ·
    exact absurd h e
   ·
    obtain ⟨A, B, h1, h2⟩ := split_at c l h
    exact ⟨b :: A, B, by rw [h1]; rfl, by simp [e, h2]⟩
theorem index1_yes (A B : List UInt8) (c : UInt8) (w : World) (h : c ∉ A) :
  Calls Tryz.prog 186 #[.string (bs (A ++ c :: B)), .string ⟨#[c]⟩] w fun e w' => e = .returned (.int .i64 (A.length : Int)) ∧ w = w' := by
 rw [← indexByte_yes c B A h]
 exact (Tryz.stringslite_Index_one (bs _) c w).mono fun _ _ ⟨h1, h2⟩ => ⟨h1, h2.symm⟩
theorem index1_no (l : List UInt8) (c : UInt8) (w : World) (h : c ∉ l) :
  Calls Tryz.prog 186 #[.string (bs l), .string ⟨#[c]⟩] w fun e w' => e = .returned (.int .i64 (-1)) ∧ w = w' := by
 rw [← indexByte_no c l h]
 exact (Tryz.stringslite_Index_one (bs _) c w).mono fun _ _ ⟨h1, h2⟩ => ⟨h1, h2.symm⟩
theorem ret_bool {a b : Bool} (h : a = b) : Ending.returned (.bool a) = Ending.returned (.bool b) := by rw [h]
theorem ret_ssb {a b a' b' : ByteArray} {c : Bool} (h1 : a = a') (h2 : b = b') : Ending.returned (.tuple #[.string a, .string b, .bool c]) = Ending.returned (.tuple #[.string a', .string b', .bool c]) := by
 rw [h1, h2]
set_option maxHeartbeats 400000 in
theorem slCut1_yes (A B : List UInt8) (c : UInt8) (w : World) (hl : (A ++ c :: B).length ≤ 100000000) (hc : c ∉ A) :
  Calls Tryz.prog 241 #[.string (bs (A ++ c :: B)), .string ⟨#[c]⟩] w fun e w' => e = .returned (.tuple #[.string (bs A), .string (bs B), .bool true]) ∧ Below w.heap.size w w' := by
 have hk : A.length < (A ++ c :: B).length := by simp
 have hA : (bs (A ++ c :: B)).extract 0 A.length = bs A := by
  rw [bs_extract]; simp
 have hB : (bs (A ++ c :: B)).extract (A.length + 1) (A ++ c :: B).length = bs B := by
  rw [bs_extract]
  have e : (A ++ c :: B).drop (A.length + 1) = B := by
   rw [← List.drop_drop]; simp
  rw [e, List.take_of_length_le (by simp; omega)]
 have hI := fun w => index1_yes A B c w hc
 have hs : (bs (A ++ c :: B)).size = (A ++ c :: B).length := bs_size _
 generalize A ++ c :: B = l at *
 generalize hkk : A.length = k at *
 clear hkk
 have hA' := hid hA; have hB' := hid hB; clear hA hB hc
 go_enter func241, ntmps241
 go_wp2_with (go_at_call 186; go_must (refine (hI _).mono ?_); rintro e w' ⟨rfl, rfl⟩)
 go_quiet (fail)
 go_wp2
 go_ret3
 exact ⟨ret_ssb hA'.out hB'.out, bdrewN _ _⟩
theorem slCut1_no (l : List UInt8) (c : UInt8) (w : World) (hc : c ∉ l) :
  Calls Tryz.prog 241 #[.string (bs l), .string ⟨#[c]⟩] w fun e w' => e = .returned (.tuple #[.string (bs l), .string (bs []), .bool false]) ∧ Below w.heap.size w w' := by
 have hI := fun w => index1_no l c w hc
 clear hc
 go_enter func241, ntmps241
 go_wp2_with (go_at_call 186; go_must (refine (hI _).mono ?_); rintro e w' ⟨rfl, rfl⟩)
 go_ret3
 exact ⟨rfl, Below.refl _ _⟩
theorem cut1_yes (A B : List UInt8) (c : UInt8) (w : World) (hl : (A ++ c :: B).length ≤ 100000000) (hc : c ∉ A) :
  Calls Tryz.prog 208 #[.string (bs (A ++ c :: B)), .string ⟨#[c]⟩] w fun e w' => e = .returned (.tuple #[.string (bs A), .string (bs B), .bool true]) ∧ Below w.heap.size w w' := by
 have hI := fun w => slCut1_yes A B c w hl hc
 clear hc hl
 go_enter func208, ntmps208
 go_wp2_with (go_at_call 241; go_must (refine (hI _).mono ?_); rintro e w' ⟨rfl, hb⟩)
 go_ret3
 exact ⟨rfl, hb⟩
theorem cut1_no (l : List UInt8) (c : UInt8) (w : World) (hc : c ∉ l) :
  Calls Tryz.prog 208 #[.string (bs l), .string ⟨#[c]⟩] w fun e w' => e = .returned (.tuple #[.string (bs l), .string (bs []), .bool false]) ∧ Below w.heap.size w w' := by
 have hI := fun w => slCut1_no l c w hc
 clear hc
 go_enter func208, ntmps208
 go_wp2_with (go_at_call 241; go_must (refine (hI _).mono ?_); rintro e w' ⟨rfl, hb⟩)
 go_ret3
 exact ⟨rfl, hb⟩
def isDig (b : UInt8) : Bool := decide (48 ≤ b.toNat) && decide (b.toNat ≤ 57)
theorem digs_contains (b : UInt8) : ([48, 49, 50, 51, 52, 53, 54, 55, 56, 57] : List UInt8).contains b = isDig b := by
 unfold isDig
 rw [Bool.eq_iff_iff]
 simp [← UInt8.toNat_inj]
 omega
theorem dropWhile_nil_iff (p : UInt8 → Bool) : ∀ l : List UInt8, l.dropWhile p = [] ↔ l.all p = true
 | [] => by simp
 | b :: l => by
  cases h : p b with
  | true => simp [h, dropWhile_nil_iff p l]
  | false => simp [h]
theorem trimS_nil_iff (l cs : List UInt8) : Lib.trimS l cs = [] ↔ l.all (cs.contains ·) = true := by
 unfold Lib.trimS Lib.trimLeftS Lib.trimRightS
 rw [dropWhile_nil_iff]
 constructor
 ·
  intro h
  cases hd : l.reverse.dropWhile (cs.contains ·) with
  | nil =>
   rw [dropWhile_nil_iff] at hd
   simpa using hd
  | cons x r =>
   exfalso
   rw [hd] at h
   have hx : cs.contains x = true := by
    simp at h
    simpa using h.2
   have := List.head_dropWhile_not (p := (cs.contains ·)) (l := l.reverse) (by rw [hd]; simp)
   simp only [hd, List.head_cons] at this
   rw [hx] at this; cases this
 ·
  intro h
  have : l.reverse.dropWhile (cs.contains ·) = [] := by
   rw [dropWhile_nil_iff]; simpa using h
  rw [this]; rfl
set_option maxHeartbeats 400000 in
theorem dec_plain (l : List UInt8) (w : World) (hl : l.length ≤ 100000000) :
  Calls Tryz.prog 209 #[.string (bs l)] w fun e w' => e = .returned (.bool (l.all isDig)) ∧ Below w.heap.size w w' := by
 have hT := fun w => Any.strings_Trim_laid Tryz.lays160 (by kernel_rfl) (bs l) ⟨#[48, 49, 50, 51, 52, 53, 54, 55, 56, 57]⟩ w (by rw [bs_size]; omega) (by decide) (ascii_of_all (by decide))
 have hN : Lib.trimS l [48, 49, 50, 51, 52, 53, 54, 55, 56, 57] = [] ↔ l.all isDig = true := by
  rw [trimS_nil_iff]
  have : (fun x => ([48, 49, 50, 51, 52, 53, 54, 55, 56, 57] : List UInt8).contains x) = isDig := funext digs_contains
  rw [this]
 have HN := hid hN; clear hN
 go_enter func209, ntmps209
 go_wp2_with (go_at_call 116; go_must (refine (hT _).mono ?_); rintro e w' ⟨rfl, hb⟩)
 go_ret
 exact ⟨ret_bool (by rw [Bool.eq_iff_iff, List.isEmpty_iff]; exact HN.out), hb⟩
theorem ret_bs {m : Bool} {a b : ByteArray} (h : a = b) : Ending.returned (.tuple #[.bool m, .string a]) = Ending.returned (.tuple #[.bool m, .string b]) := by rw [h]
theorem bs_get0 (c : UInt8) (r : List UInt8) (h : 0 < (bs (c :: r)).size) : (bs (c :: r))[0]'h = c := rfl
theorem bs_tail (c : UInt8) (r : List UInt8) : (bs (c :: r)).extract 1 (r.length + 1) = bs r := by
 rw [bs_extract]; simp
theorem bs_ne (c : UInt8) (r : List UInt8) : (bs (c :: r)).toList.isEmpty = false := by simp [bs]
/-- an optional sign -/
def signedL : List UInt8 → Bool × List UInt8
 | [] => (false, [])
 | c :: r => if c = 45 then (true, r) else if c = 43 then (false, r) else (false, c :: r)
set_option maxHeartbeats 400000 in
theorem dec_signed (l : List UInt8) (w : World) (hl : l.length ≤ 100000000) :
  Calls Tryz.prog 158 #[.string (bs l)] w fun e w' => e = .returned (.tuple #[.bool (signedL l).1, .string (bs (signedL l).2)]) ∧ Below w.heap.size w w' := by
 cases l with
 | nil =>
  have hT := bs_toList
  go_enter func158, ntmps158
  go_wp2
  go_ret2
  exact ⟨rfl, Below.refl _ _⟩
 | cons c r =>
  have h0 := bs_get0 c r
  have hs : (bs (c :: r)).size = r.length + 1 := by rw [bs_size]; rfl
  have he := bs_ne c r
  have hb := bs_tail c r
  have Hb := hid hb
  simp only [List.length_cons] at hl
  by_cases h1 : c = 45
  ·
   subst h1
   generalize bs (45 :: r) = s at *
   clear hb
   go_enter func158, ntmps158
   go_wp2
   go_quiet (fail)
   go_wp2
   go_ret2
   exact ⟨ret_bs Hb.out, bdrewN _ _⟩
  ·
   by_cases h2 : c = 43
   ·
    subst h2
    generalize bs (43 :: r) = s at *
    clear hb
    go_enter func158, ntmps158
    go_wp2
    go_quiet (fail)
    go_wp2
    go_ret2
    exact ⟨ret_bs Hb.out, bdrewN _ _⟩
   ·
    have e1 : ((c.toNat : Int) == 45) = false := by
     rw [beq_eq_false_iff_ne]; intro h; exact h1 (UInt8.toNat_inj.1 (by show c.toNat = 45; omega))
    have e2 : ((c.toNat : Int) == 43) = false := by
     rw [beq_eq_false_iff_ne]; intro h; exact h2 (UInt8.toNat_inj.1 (by show c.toNat = 43; omega))
    have e3 : signedL (c :: r) = (false, c :: r) := by simp [signedL, h1, h2]
    rw [e3]
    generalize bs (c :: r) = s at *
    clear hb e3 h1 h2
    go_enter func158, ntmps158
    go_wp2
    go_ret2
    exact ⟨rfl, Below.refl _ _⟩
theorem results4 {fn : Func} {t u v x : Tmp} (h : fn.results = #[.tmp t, .tmp u, .tmp v, .tmp x]) (tmps : Array Value) (P : Program) (w : World) :
  (results fn tmps).run P w = .ok (.tuple #[tmps.getD t undef, tmps.getD u undef, tmps.getD v undef, tmps.getD x undef]) w := by
 simp [results, h]
theorem ret_ssbb {a b a' b' : ByteArray} {c d d' : Bool} (h1 : a = a') (h2 : b = b') (h3 : d = d') : Ending.returned (.tuple #[.string a, .string b, .bool c, .bool d]) = Ending.returned (.tuple #[.string a', .string b', .bool c, .bool d']) := by
 rw [h1, h2, h3]
/-- the whole part, what is behind the point, is there a point -/
def cutDot : List UInt8 → List UInt8 × List UInt8 × Bool
 | [] => ([], [], false)
 | c :: r => if c = 46 then ([], r, true) else (c :: (cutDot r).1, (cutDot r).2)
theorem cutDot_yes (B : List UInt8) : ∀ A : List UInt8, 46 ∉ A → cutDot (A ++ 46 :: B) = (A, B, true)
 | [], _ => by simp [cutDot]
 | c :: A, h => by
  simp only [List.mem_cons, not_or] at h
  have ih := cutDot_yes B A h.2
  simp [cutDot, ih, Ne.symm h.1]
theorem cutDot_no : ∀ l : List UInt8, 46 ∉ l → cutDot l = (l, [], false)
 | [], _ => rfl
 | c :: l, h => by
  simp only [List.mem_cons, not_or] at h
  have ih := cutDot_no l h.2
  simp [cutDot, ih, Ne.symm h.1]
theorem cutDot_len (l : List UInt8) : (cutDot l).1.length + (cutDot l).2.1.length ≤ l.length := by
 induction l with
 | nil => simp [cutDot]
 | cons c r ih => unfold cutDot; split <;> simp; omega
theorem dec_cut (l : List UInt8) (w : World) (hl : l.length ≤ 100000000) :
  Calls Tryz.prog 208 #[.string (bs l), .string ⟨#[46]⟩] w fun e w' => e = .returned (.tuple #[.string (bs (cutDot l).1), .string (bs (cutDot l).2.1), .bool (cutDot l).2.2]) ∧ Below w.heap.size w w' := by
 by_cases h : 46 ∈ l
 ·
  obtain ⟨A, B, rfl, hA⟩ := split_at 46 l h
  rw [cutDot_yes B A hA]; exact cut1_yes A B 46 w hl hA
 ·
  rw [cutDot_no l h]; exact cut1_no l 46 w h
def mantOk (l : List UInt8) : Bool := (cutDot l).1.all isDig && (cutDot l).2.1.all isDig && decide (0 < (cutDot l).1.length + (cutDot l).2.1.length)
set_option maxHeartbeats 400000 in
theorem dec_mantissa (l : List UInt8) (w : World) (hl : l.length ≤ 100000000) :
    Calls Tryz.prog 159 #[.string (bs l)] w fun e w' => e = .returned (.tuple #[.string (bs (cutDot l).1), .string (bs (cutDot l).2.1), .bool (cutDot l).2.2, .bool (mantOk l)]) ∧ Below w.heap.size w w' := by
  have hlen := cutDot_len l
  have hm : mantOk l = ((cutDot l).1.all isDig && (cutDot l).2.1.all isDig && decide (0 < (cutDot l).1.length + (cutDot l).2.1.length)) := rfl
  have hcut := fun w => dec_cut l w hl
  generalize mantOk l = ok at *
  generalize cutDot l = p at *
  obtain ⟨A, B, f⟩ := p
  simp only at hlen hm hcut
  have Hm := hid hm; clear hm
  have s1 : (bs A).size = A.length := bs_size A
  have s2 : (bs B).size = B.length := bs_size B
  by_cases hA : A.all isDig = true
  · by_cases hB : B.all isDig = true
    · have hok : ok = decide (0 < A.length + B.length) := by rw [Hm.out, hA, hB]; rfl
      have HA := hid hA; have HB := hid hB; have Hok := hid hok; clear hok hA hB
      go_enter func159, ntmps159
      go_wp2_with first | (go_at_call 208; go_must (refine (hcut _).mono ?_); rintro e w1 ⟨rfl, hb1⟩) | (go_at_call_of 209 (Value.string (bs A)); go_must (refine (dec_plain A _ (by omega)).mono ?_); rintro e w2 ⟨rfl, hb2⟩; rw [HA.out]) | (go_at_call_of 209 (Value.string (bs B)); go_must (refine (dec_plain B _ (by omega)).mono ?_); rintro e w3 ⟨rfl, hb3⟩; rw [HB.out])
      refine bodyPost_ret (results4 rfl _ _ _) rfl ?_
      refine ⟨ret_ssbb rfl rfl ?_, btr (btr hb1 hb2) hb3⟩
      rw [Hok.out, Bool.eq_iff_iff]; simp; omega
    · have hB' : B.all isDig = false := by simpa using hB
      have hok : ok = false := by rw [Hm.out, hA, hB']; rfl
      have HA := hid hA; have HB := hid hB'; have Hok := hid hok; clear hok hA hB hB'
      go_enter func159, ntmps159
      go_wp2_with first | (go_at_call 208; go_must (refine (hcut _).mono ?_); rintro e w1 ⟨rfl, hb1⟩) | (go_at_call_of 209 (Value.string (bs A)); go_must (refine (dec_plain A _ (by omega)).mono ?_); rintro e w2 ⟨rfl, hb2⟩; rw [HA.out]) | (go_at_call_of 209 (Value.string (bs B)); go_must (refine (dec_plain B _ (by omega)).mono ?_); rintro e w3 ⟨rfl, hb3⟩; rw [HB.out])
      refine bodyPost_ret (results4 rfl _ _ _) rfl ?_
      exact ⟨ret_ssbb rfl rfl Hok.out.symm, btr (btr hb1 hb2) hb3⟩
  · have hA' : A.all isDig = false := by simpa using hA
    have hok : ok = false := by rw [Hm.out, hA']; rfl
    have HA := hid hA'; have Hok := hid hok; clear hok hA hA'
    go_enter func159, ntmps159
    go_wp2_with first | (go_at_call 208; go_must (refine (hcut _).mono ?_); rintro e w1 ⟨rfl, hb1⟩) | (go_at_call_of 209 (Value.string (bs A)); go_must (refine (dec_plain A _ (by omega)).mono ?_); rintro e w2 ⟨rfl, hb2⟩; rw [HA.out])
    refine bodyPost_ret (results4 rfl _ _ _) rfl ?_
    exact ⟨ret_ssbb rfl rfl Hok.out.symm, btr hb1 hb2⟩
end
section
def dbl : List Nat → List Nat × Nat
 | [] => ([], 0)
 | x :: r => ((2 * x + (dbl r).2) % 10 :: (dbl r).1, (2 * x + (dbl r).2) / 10)
theorem dbl_len (l : List Nat) : (dbl l).1.length = l.length := by
 induction l with
 | nil => rfl
 | cons x r ih => simp [dbl, ih]
theorem dbl_carry (l : List Nat) (h : ∀ x ∈ l, x < 10) : (dbl l).2 ≤ 1 := by
 induction l with
 | nil => simp [dbl]
 | cons x r ih =>
  have h1 := h x (by simp)
  have h2 := ih (fun y hy => h y (by simp [hy]))
  simp [dbl]; omega
theorem dbl_digits (l : List Nat) : ∀ x ∈ (dbl l).1, x < 10 := by
 induction l with
 | nil => simp [dbl]
 | cons x r ih =>
  intro y hy
  simp [dbl] at hy
  rcases hy with rfl | hy
  ·
   omega
  ·
   exact ih y hy
def u8s (l : List Nat) : List Value := l.map fun (x : Nat) => Value.int .u8 (x : Int)
theorem u8s_len (l : List Nat) : (u8s l).length = l.length := by simp [u8s]
theorem dbl_step (ds : List Nat) (j : Nat) (hj : j < ds.length) :
  dbl (ds.drop j) = ((2 * ds[j] + (dbl (ds.drop (j + 1))).2) % 10 :: (dbl (ds.drop (j + 1))).1, (2 * ds[j] + (dbl (ds.drop (j + 1))).2) / 10) := by
 rw [List.drop_eq_getElem_cons hj]; rfl
set_option maxHeartbeats 400000 in
theorem dec_double (b : Nat) (cap : Nat) (ds : List Nat) (w : World) (hr : BRow w b (u8s ds)) (hd : ∀ x ∈ ds, x < 10) (hl : ds.length ≤ maxLen) (B : Nat) (hB : B ≤ b) :
  Calls Tryz.prog 211 #[.slice (some ⟨b, 0, none⟩) ds.length cap] w fun e w' => e = .returned (.int .i64 (dbl ds).2) ∧ BRow w' b (u8s (dbl ds).1) ∧ Below B w w' := by
 unfold maxLen at hl
 go_enter func211, ntmps211
 go_wp2_with fail
 go_loopw [3, 4] (fun c i wr => ∃ (k : Nat) (i0 : Int), k ≤ ds.length ∧ i0 = (k : Int) - 1 ∧ i = .int .i64 i0 ∧ c = .int .u8 ((dbl (ds.drop k)).2 : Int) ∧ BRow wr b (u8s (ds.take k ++ (dbl (ds.drop k)).1)) ∧ Below B w wr) (fun _ i _ => (intOf i + 1).toNat)
 case atStart => exact ⟨ds.length, _, Nat.le_refl _, rfl, rfl, by simp [dbl], by simpa [dbl] using hr, Below.refl _ _⟩
 case round =>
  obtain ⟨k, i0, hk, hi0, rfl, rfl, hrow, hbel⟩ := hrel
  cases k with
  | zero =>
   obtain rfl : i0 = -1 := by omega
   clear hi0
   have hc := dbl_carry ds hd
   have e0 : ds.drop 0 = ds := by simp
   rw [e0] at hrow ⊢
   have Hrow := hid hrow; clear hrow
   go_wp2
   go_ret
   exact ⟨rfl, by simpa using Hrow.out, hbel⟩
  | succ j =>
   obtain rfl : i0 = (j : Int) := by omega
   clear hi0
   have hj : j < ds.length := by omega
   have hc := dbl_carry (ds.drop (j + 1)) (fun x hx => hd x (List.mem_of_mem_drop hx))
   have hx := hd ds[j] (by simp)
   have hst := dbl_step ds j hj
   have hsz := hbel.size
   obtain ⟨hcell, hfz⟩ := hrow j (.int .u8 (ds[j] : Int)) (by
    have hl1 : j < (ds.take (j + 1)).length := by simp; omega
    rw [u8s, List.getElem?_map, List.getElem?_append_left hl1, List.getElem?_take, if_pos (by omega), List.getElem?_eq_getElem hj]; rfl)
   have hset := hrow.set j (.int .u8 ((2 * (ds[j] : Int) + ((dbl (ds.drop (j + 1))).2 : Int)) % 10)) (by simp [u8s]; omega)
   have Hset := hid hset; have Hst := hid hst; clear hset hst hrow hr
   generalize hgc : (dbl (ds.drop (j + 1))).2 = c at *
   generalize hgx : ds[j] = x at *
   have Hgc := hid hgc; have Hgx := hid hgx; clear hgc hgx
   go_wp2
   refine ⟨⟨j, _, by omega, rfl, rfl, ?_, ?_, hbel.setCell hB _⟩, by simp [intOf]⟩
   ·
    rw [Hst.out]; go_num
   ·
    have e : (u8s (List.take (j + 1) ds ++ (dbl (List.drop (j + 1) ds)).fst)).set j (Value.int IntKind.u8 ((2 * (x : Int) + (c : Int)) % 10)) = u8s (List.take j ds ++ (dbl (List.drop j ds)).fst) := by
     rw [Hst.out]
     rw [List.take_succ_eq_append_getElem hj]
     have hl1 : (List.map (fun (x : Nat) => Value.int .u8 (x : Int)) (List.take j ds)).length = j := by simp; omega
     simp only [u8s, List.map_append, List.append_assoc]
     rw [List.set_append_right _ _ (by omega), hl1, Nat.sub_self]
     simp
    rw [← e]; exact Hset.out
/-- k rounds: the whole part doubled, what goes over added -/
def rounds : Nat → Int → List Nat → Int × List Nat
 | 0, n, d => (n, d)
 | k + 1, n, d => rounds k (2 * n + (dbl d).2) (dbl d).1
def digitsOf (l : List UInt8) : List Nat := l.map fun c => c.toNat - 48
def natOf (l : List UInt8) : Nat := l.foldl (fun n c => 10 * n + (c.toNat - 48)) 0
/-- a number by its digits ahead of and behind the point, without its sign; none: too great -/
def rawL (whole rest : List UInt8) : Option Int :=
 if 5 < (whole.dropWhile (· == 48)).length then none
 else some ((rounds 16 (natOf (whole.dropWhile (· == 48))) (digitsOf rest)).1 + (dbl (rounds 16 (natOf (whole.dropWhile (· == 48))) (digitsOf rest)).2).2)
def valueL (minus : Bool) (whole rest : List UInt8) : Int × Bool :=
 match rawL whole rest with
 | none => (0, false)
 | some n => let m := if minus then -n else n; (m, fitsB m)
theorem natOf_snoc (l : List UInt8) (c : UInt8) : natOf (l ++ [c]) = 10 * natOf l + (c.toNat - 48) := by simp [natOf]
theorem natOf_from (l : List UInt8) (h : ∀ c ∈ l, isDig c = true) : ∀ n, l.foldl (fun n c => 10 * n + (c.toNat - 48)) n < (n + 1) * 10 ^ l.length := by
 induction l with
 | nil => intro n; simp
 | cons c r ih =>
  intro n
  have h1 := ih (fun x hx => h x (by simp [hx])) (10 * n + (c.toNat - 48))
  have h2 := h c (by simp)
  simp [isDig] at h2
  rw [List.foldl_cons, List.length_cons, Nat.pow_succ]
  have h3 : (10 * n + (c.toNat - 48) + 1) * 10 ^ r.length ≤ (n + 1) * (10 ^ r.length * 10) := by
   rw [Nat.mul_comm (10 ^ r.length) 10, ← Nat.mul_assoc]
   exact Nat.mul_le_mul_right _ (by omega)
  omega
theorem natOf_lt (l : List UInt8) (h : ∀ c ∈ l, isDig c = true) : natOf l < 10 ^ l.length := by
 have := natOf_from l h 0
 rw [Nat.zero_add, Nat.one_mul] at this
 exact this
theorem digitsOf_lt (l : List UInt8) (h : ∀ c ∈ l, isDig c = true) : ∀ x ∈ digitsOf l, x < 10 := by
 intro x hx
 simp [digitsOf] at hx
 obtain ⟨c, hc, rfl⟩ := hx
 have h2 := h c hc
 simp [isDig] at h2
 omega
theorem dec_value_big (minus : Bool) (whole rest : List UInt8) (w : World) (hb : 5 < (whole.dropWhile (· == 48)).length) :
  Calls Tryz.prog 160 #[.bool minus, .string (bs whole), .string (bs rest)] w fun e w' => e = .returned (.tuple #[.int .i64 0, .bool false]) ∧ Below w.heap.size w w' := by
 have hs := bs_size (whole.dropWhile (· == 48))
 have hT := fun w => trimLeft0 whole w
 generalize whole.dropWhile (· == 48) = t at *
 go_enter func160, ntmps160
 go_wp2_with (go_at_call 210; go_must (refine (hT _).mono ?_); rintro e w1 ⟨rfl, rfl⟩)
 go_ret2
 exact ⟨rfl, Below.refl _ _⟩
theorem byteVals_at (l : List UInt8) (k : Nat) (h : k < l.length) : (byteVals l)[k]? = some (.int .u8 (l[k].toNat : Int)) := by
 unfold byteVals
 rw [List.getElem?_map, List.getElem?_eq_getElem h]; rfl
theorem natOf_take (l : List UInt8) (k : Nat) (h : k < l.length) : natOf (l.take (k + 1)) = 10 * natOf (l.take k) + (l[k].toNat - 48) := by
 rw [List.take_succ_eq_append_getElem h, natOf_snoc]
theorem natOf_take_lt (l : List UInt8) (k : Nat) (hl : l.length ≤ 5) (h : ∀ c ∈ l, isDig c = true) : natOf (l.take k) < 100000 := by
 have h1 := natOf_lt (l.take k) (fun c hc => h c (List.mem_of_mem_take hc))
 have h2 : 10 ^ (l.take k).length ≤ 10 ^ 5 := Nat.pow_le_pow_right (by decide) (by simp; omega)
 omega
theorem isDig_bounds {c : UInt8} (h : isDig c = true) : 48 ≤ c.toNat ∧ c.toNat ≤ 57 := by
 simpa [isDig] using h
theorem dec_double' (b : Nat) (cap n : Nat) (ds : List Nat) (w : World) (hn : ds.length = n) (hr : BRow w b (u8s ds)) (hd : ∀ x ∈ ds, x < 10) (hl : n ≤ 3000) (B : Nat) (hB : B ≤ b) :
  Calls Tryz.prog 211 #[.slice (some ⟨b, 0, none⟩) n cap] w fun e w' => e = .returned (.int .i64 (dbl ds).2) ∧ BRow w' b (u8s (dbl ds).1) ∧ Below B w w' := by
 subst hn
 exact dec_double b cap ds w hr hd (by unfold maxLen; omega) B hB
theorem u8s_append (a b : List Nat) : u8s (a ++ b) = u8s a ++ u8s b := by simp [u8s]
theorem digitsOf_len (l : List UInt8) : (digitsOf l).length = l.length := by simp [digitsOf]
theorem mix_at (l : List UInt8) (k : Nat) (h : k < l.length) : (u8s ((digitsOf l).take k) ++ byteVals (l.drop k))[k]? = some (.int .u8 (l[k].toNat : Int)) := by
 have e : (u8s ((digitsOf l).take k)).length = k := by rw [u8s_len, List.length_take, digitsOf_len]; omega
 rw [List.getElem?_append_right (by omega), e, Nat.sub_self, List.drop_eq_getElem_cons h]; rfl
theorem mix_set (l : List UInt8) (k : Nat) (h : k < l.length) (h1 : 48 ≤ l[k].toNat) : (u8s ((digitsOf l).take k) ++ byteVals (l.drop k)).set k (.int .u8 ((l[k].toNat : Int) - 48)) = u8s ((digitsOf l).take (k + 1)) ++ byteVals (l.drop (k + 1)) := by
 have e : (u8s ((digitsOf l).take k)).length = k := by rw [u8s_len, List.length_take, digitsOf_len]; omega
 rw [List.set_append_right _ _ (by omega), e, Nat.sub_self, List.drop_eq_getElem_cons h, List.take_succ_eq_append_getElem (by rw [digitsOf_len]; exact h), u8s_append, List.append_assoc]
 congr 1
 have e2 : (digitsOf l)[k]'(by rw [digitsOf_len]; exact h) = l[k].toNat - 48 := by simp [digitsOf]
 have e3 : ((l[k].toNat - 48 : Nat) : Int) = (l[k].toNat : Int) - 48 := by omega
 rw [e2]
 simp only [u8s, List.map_cons, List.map_nil, e3]
 rfl
theorem ret_ib {a b : Int} {c d : Bool} (h : a = b) (h' : c = d) : Ending.returned (.tuple #[.int .i64 a, .bool c]) = Ending.returned (.tuple #[.int .i64 b, .bool d]) := by rw [h, h']
set_option maxRecDepth 100000 in
set_option maxHeartbeats 2000000 in
theorem dec_value_fit (minus : Bool) (whole rest : List UInt8) (w : World) (h1 : (whole.dropWhile (· == 48)).length ≤ 5) (h2 : rest.length ≤ 3000) (h3 : ∀ c ∈ whole, isDig c = true) (h4 : ∀ c ∈ rest, isDig c = true) :
    Calls Tryz.prog 160 #[.bool minus, .string (bs whole), .string (bs rest)] w fun e w' => e = .returned (.tuple #[.int .i64 (valueL minus whole rest).1, .bool (valueL minus whole rest).2]) ∧ Below w.heap.size w w' := by
  have hT := fun w => trimLeft0 whole w
  have hv : valueL minus whole rest = (let m := if minus then -((rounds 16 (natOf (whole.dropWhile (· == 48))) (digitsOf rest)).1 + (dbl (rounds 16 (natOf (whole.dropWhile (· == 48))) (digitsOf rest)).2).2) else ((rounds 16 (natOf (whole.dropWhile (· == 48))) (digitsOf rest)).1 + (dbl (rounds 16 (natOf (whole.dropWhile (· == 48))) (digitsOf rest)).2).2); (m, fitsB m)) := by
    unfold valueL rawL
    rw [if_neg (by omega)]
  have ht : ∀ c ∈ whole.dropWhile (· == 48), isDig c = true := fun c hc => h3 c (List.dropWhile_sublist _ |>.subset hc)
  clear h3
  generalize whole.dropWhile (· == 48) = t at *
  have hs := bs_size t
  have hs2 := bs_size rest
  have Hv := hid hv; have Ht := hid ht; have H4 := hid h4; clear hv ht h4
  go_enter func160, ntmps160
  go_wp2_with first | (go_at_call 210; go_must (refine (hT _).mono ?_); rintro e w1 ⟨rfl, rfl⟩) | (refine wpList_conv_bytes rfl _ _ _ _ rfl underlying9 underlying22 underlying5 _ rfl ?_; intro cap w1 hcap hrow hg hsz)
  have hb1 := below_of_grown hg
  have Hrow := hid hrow; clear hrow hg hT
  go_loop [8, 10, 21] (fun n _ i => ∃ k : Nat, k ≤ t.length ∧ i = .int .i64 k ∧ n = .int .i64 (natOf (t.take k) : Int)) (fun _ _ i => t.length - (intOf i).toNat)
  case atStart => exact ⟨0, Nat.zero_le _, rfl, rfl⟩
  case round =>
    obtain ⟨k, hk, rfl, rfl⟩ := hrel
    have hlt := natOf_take_lt t k h1 Ht.out
    by_cases hkl : k < t.length
    · have hstep := natOf_take t k hkl
      have hd := isDig_bounds (Ht.out t[k] (by simp))
      have hc := (Hrow.out k _ (byteVals_at t k hkl)).1
      have Hstep := hid hstep; clear hstep
      generalize natOf (t.take k) = N at *
      generalize t[k].toNat = c at *
      go_wp2
      go_round
      case rel => exact ⟨k + 1, by omega, by go_num, by rw [Hstep.out]; go_num⟩
      case measure => simp [intOf]; omega
    · obtain rfl : k = t.length := by omega
      rw [List.take_length] at hlt
      rw [List.take_length]
      clear Hrow
      go_wp2_with (refine wpList_conv_bytes rfl _ _ _ _ rfl underlying9 underlying22 underlying5 _ rfl ?_; intro cap2 w2 hcap2 hrow hg hsz2)
      have hb2 := btr hb1 (below_of_grown hg)
      rw [hsz] at hrow
      have hB : w.heap.size ≤ w.heap.size + 1 := by omega
      clear hcap hg hb1
      go_loopw [12, 36] (fun _ i wr => ∃ k : Nat, k ≤ rest.length ∧ i = .int .i64 k ∧ BRow wr (w.heap.size + 1) (u8s ((digitsOf rest).take k) ++ byteVals (rest.drop k)) ∧ Below w.heap.size w wr) (fun _ i _ => rest.length - (intOf i).toNat)
      case atStart => exact ⟨0, Nat.zero_le _, rfl, by simpa [u8s] using (show BRow w2 (w.heap.size + 1) (byteVals rest) from hrow), hb2⟩
      case round =>
        obtain ⟨k, hk, rfl, hrow2, hbel⟩ := hrel
        clear hrow hb2 hsz hsz2 hcap2
        by_cases hkl : k < rest.length
        · have hd := isDig_bounds (H4.out rest[k] (by simp))
          obtain ⟨hc, hfz⟩ := hrow2 k _ (mix_at rest k hkl)
          have hset := hrow2.set k (.int .u8 ((rest[k].toNat : Int) - 48)) (by
            have := (List.getElem?_eq_some_iff.1 (mix_at rest k hkl)).1; exact this)
          rw [mix_set rest k hkl hd.1] at hset
          have Hset := hid hset; clear hset hrow2
          generalize rest[k].toNat = c at *
          go_wp2
          go_roundw
          case rel => exact ⟨k + 1, by omega, by go_num, Hset.out, hbel.setCell hB _⟩
          case measure => simp [intOf]; omega
        · obtain rfl : k = rest.length := by omega
          have hrow3 : BRow wr (w.heap.size + 1) (u8s (digitsOf rest)) := by
            have e1 : (digitsOf rest).take rest.length = digitsOf rest := List.take_of_length_le (by rw [digitsOf_len]; omega)
            have e2 : rest.drop rest.length = [] := by simp
            rw [e1, e2] at hrow2
            simpa [byteVals] using hrow2
          have Hrow3 := hid hrow3; clear hrow2 hrow3
          have hdl := digitsOf_len rest
          have hdd := digitsOf_lt rest H4.out
          have Hdl := hid hdl; have Hdd := hid hdd; clear hdl hdd
          generalize digitsOf rest = d0 at *
          generalize natOf t = n0 at *
          obtain ⟨wo, rfl⟩ : ∃ wo : World, wo = wr := ⟨_, rfl⟩
          go_wp2
          go_loopw [8, 46] (fun n i wr => ∃ (k : Nat) (N : Int) (d : List Nat), k ≤ 16 ∧ i = .int .i64 k ∧ n = .int .i64 N ∧ 0 ≤ N ∧ N + 1 ≤ 100000 * 2 ^ k ∧ d.length = rest.length ∧ (∀ x ∈ d, x < 10) ∧ BRow wr (w.heap.size + 1) (u8s d) ∧ Below w.heap.size w wr ∧ rounds (16 - k) N d = rounds 16 n0 d0) (fun _ i _ => 16 - (intOf i).toNat)
          case atStart => exact ⟨0, n0, d0, by omega, rfl, rfl, by omega, by simp; omega, Hdl.out, Hdd.out, Hrow3.out, hbel, rfl⟩
          case round =>
            obtain ⟨k, N, d, hk, rfl, rfl, hN0, hN1, hdl, hdd, hrow, hbel2, hrr⟩ := hrel
            have hpow : (2 : Int) ^ k ≤ 65536 := by
              have h := Nat.pow_le_pow_right (show 0 < 2 by decide) hk
              have h2 : ((2 ^ k : Nat) : Int) ≤ ((2 ^ 16 : Nat) : Int) := by exact_mod_cast h
              simpa using h2
            have hN2 : N < 6553600000 := by omega
            have hcy := dbl_carry d hdd
            have hsz3 := hbel2.size
            have Hrr := hid hrr; have Hdl2 := hid hdl; have Hdd2 := hid hdd; have HN1 := hid hN1
            have Hrow := hid hrow
            clear hrr hdl hdd hN1 hrow hbel hpow
            by_cases hk16 : k < 16
            · go_wp2_with (go_at_call 211; go_must (refine (dec_double' _ _ _ d _ Hdl2.out Hrow.out Hdd2.out h2 w.heap.size hB).mono ?_); rintro e w4 ⟨rfl, hrow4, hb4⟩)
              go_roundw
              case rel =>
                refine ⟨k + 1, 2 * N + (dbl d).2, (dbl d).1, by omega, by go_num, by go_num, by omega, ?_, by rw [dbl_len]; exact Hdl2.out, dbl_digits d, hrow4, hbel2.trans hb4, ?_⟩
                · have := HN1.out
                  rw [Int.pow_succ]; omega
                · rw [← Hrr.out, show 16 - k = (16 - (k + 1)) + 1 from by omega]; rfl
              case measure => simp [intOf]; omega
            · obtain rfl : k = 16 := by omega
              have hrd : (rounds 16 n0 d0) = (N, d) := by rw [← Hrr.out]; rfl
              have Hrd := hid hrd; clear hrd
              cases minus with
              | true =>
                go_wp2_with first | (go_at_call 211; go_must (refine (dec_double' _ _ _ d _ Hdl2.out Hrow.out Hdd2.out h2 w.heap.size hB).mono ?_); rintro e w4 ⟨rfl, hrow4, hb4⟩) | (go_at_call 195; go_must (refine (fix_Fits _ _).mono ?_); rintro e w5 ⟨rfl, rfl⟩)
                go_ret2
                refine ⟨?_, hbel2.trans hb4⟩
                rw [Hv.out, Hrd.out]; rfl
              | false =>
                go_wp2_with first | (go_at_call 211; go_must (refine (dec_double' _ _ _ d _ Hdl2.out Hrow.out Hdd2.out h2 w.heap.size hB).mono ?_); rintro e w4 ⟨rfl, hrow4, hb4⟩) | (go_at_call 195; go_must (refine (fix_Fits _ _).mono ?_); rintro e w5 ⟨rfl, rfl⟩)
                go_ret2
                refine ⟨?_, hbel2.trans hb4⟩
                rw [Hv.out, Hrd.out]; rfl
end
section
def digN (l : List UInt8) : Nat := (l.takeWhile isDig).length
theorem digN_le (l : List UInt8) : digN l ≤ l.length := (List.takeWhile_sublist isDig).length_le
theorem digN_cons (c : UInt8) (l : List UInt8) : digN (c :: l) = if isDig c then digN l + 1 else 0 := by
 unfold digN; rw [List.takeWhile_cons]; split <;> simp
theorem digN_drop (l : List UInt8) (k : Nat) (h : k < l.length) : digN (l.drop k) = if isDig l[k] then digN (l.drop (k + 1)) + 1 else 0 := by
 rw [List.drop_eq_getElem_cons h, digN_cons]
set_option maxHeartbeats 1000000 in
theorem ref_Digits (l : List UInt8) (w : World) (hl : l.length ≤ 100000000) :
    Calls Tryz.prog 80 #[.string (bs l)] w fun e w' => e = .returned (.int .i64 (digN l)) ∧ w = w' := by
  have hs := bs_size l
  go_enter func80, ntmps80
  go_wp2
  go_loop [3] (fun n => ∃ k : Nat, k ≤ l.length ∧ n = .int .i64 k ∧ digN l = k + digN (l.drop k)) (fun n => l.length - (intOf n).toNat)
  case atStart => exact ⟨0, Nat.zero_le _, rfl, by simp⟩
  case round =>
    obtain ⟨k, hk, rfl, hd⟩ := hrel
    have Hd := hid hd; clear hd
    by_cases hkl : k < l.length
    · have hdd := digN_drop l k hkl
      obtain ⟨c, hc⟩ : ∃ c, c = l[k] := ⟨_, rfl⟩
      have hget : ∀ h, (bs l)[k]'h = c := fun _ => hc.symm
      rw [← hc] at hdd
      clear hc
      have Hdd := hid hdd; clear hdd
      by_cases hdig : isDig c = true
      · have hb := isDig_bounds hdig
        have Hdig := hid hdig; clear hdig
        go_wp2
        go_round
        case rel => exact ⟨k + 1, by omega, by go_num, by rw [Hd.out, Hdd.out, if_pos Hdig.out]; omega⟩
        case measure => simp [intOf]; omega
      · have hb : c.toNat < 48 ∨ 57 < c.toNat := by
          simp only [isDig, Bool.and_eq_true, decide_eq_true_eq] at hdig
          omega
        have Hdig := hid hdig; clear hdig
        go_wp2
        all_goals
          go_ret
          exact ⟨by rw [Hd.out, Hdd.out, if_neg Hdig.out]; rfl, rfl⟩
    · obtain rfl : k = l.length := by omega
      go_wp2
      go_ret
      exact ⟨by rw [Hd.out]; simp [digN], rfl⟩
theorem results5 {fn : Func} {t u v x y : Tmp} (h : fn.results = #[.tmp t, .tmp u, .tmp v, .tmp x, .tmp y]) (tmps : Array Value) (P : Program) (w : World) :
  (results fn tmps).run P w = .ok (.tuple #[tmps.getD t undef, tmps.getD u undef, tmps.getD v undef, tmps.getD x undef, tmps.getD y undef]) w := by
 simp [results, h]
theorem ret_plain {m h : Bool} {a b : ByteArray} {k : Nat} {o p : Bool} (h1 : a = b) (h2 : o = p) : Ending.returned (.tuple #[.bool m, .string a, .int .i64 k, .bool h, .bool o]) = Ending.returned (.tuple #[.bool m, .string b, .int .i64 k, .bool h, .bool p]) := by
 rw [h1, h2]
/-- digits, how many are ahead of the point, has it a point, is it a number -/
def plainR (r : List UInt8) : List UInt8 × Nat × Bool × Bool :=
 match r.drop (digN r) with
 | [] => (r.take (digN r), digN r, false, !(r.take (digN r)).isEmpty)
 | c :: R2 => if c = 46 then (r.take (digN r) ++ R2.take (digN R2), digN r, true, (R2.drop (digN R2)).isEmpty && !(r.take (digN r) ++ R2.take (digN R2)).isEmpty)
   else (r.take (digN r), digN r, false, false)
theorem ext_take (l : List UInt8) (n : Nat) : (bs l).extract 0 n = bs (l.take n) := by rw [bs_extract]; simp
theorem ext_drop (l : List UInt8) (n m : Nat) (h : m = l.length) : (bs l).extract n m = bs (l.drop n) := by
 subst h; rw [bs_extract, List.take_of_length_le (by simp)]
theorem pos_isEmpty (l : List UInt8) : decide (0 < l.length) = !l.isEmpty := by cases l <;> simp
theorem zero_isEmpty (l : List UInt8) : ((l.length : Int) == 0) = l.isEmpty := by
 cases l
 ·
  rfl
 ·
  rw [beq_eq_false_iff_ne.2 (by simp; omega)]; rfl
/-- what the walk is told of the text behind the sign -/
structure PlainFacts (r D1 R1 : List UInt8) (n1 : Nat) : Prop where
 n : n1 ≤ r.length
 e1 : (bs r).extract 0 n1 = bs D1
 e2 : (bs r).extract n1 r.length = bs R1
 d : ∀ w, Calls Tryz.prog 80 #[.string (bs r)] w fun e w' => e = .returned (.int .i64 n1) ∧ w = w'
theorem plainFacts (r : List UInt8) (h : r.length ≤ 100000000) : PlainFacts r (r.take (digN r)) (r.drop (digN r)) (digN r) :=
 ⟨digN_le r, ext_take _ _, ext_drop _ _ _ rfl, fun w => ref_Digits r w h⟩
set_option maxRecDepth 100000 in
set_option maxHeartbeats 4000000 in
theorem ref_plain_minus (r : List UInt8) (w : World) (hl : r.length + 1 ≤ 100000000) :
  Calls Tryz.prog 173 #[.string (bs (45 :: r))] w fun e w' => e = .returned (.tuple #[.bool true, .string (bs (plainR r).1), .int .i64 (plainR r).2.1, .bool (plainR r).2.2.1, .bool (plainR r).2.2.2]) ∧ Below w.heap.size w w' := by
 have hl1 : r.length ≤ 100000000 := by omega
 obtain ⟨hn1, e1, e2, hD⟩ := plainFacts r hl1
 have hP : plainR r = plainR r := rfl
 unfold plainR at hP ⊢
 clear hP
 have hr1 := bs_size r
 have hD1s := bs_size (r.take (digN r))
 have hD1l : (r.take (digN r)).length ≤ r.length := by simp; omega
 generalize r.take (digN r) = D1 at *
 generalize digN r = n1 at *
 cases hR : r.drop n1 with
 | nil =>
  rw [hR] at e2
  clear hR
  have hR1 : (bs []).size = 0 := rfl
  simp only
  have hs0 : (bs (45 :: r)).size = r.length + 1 := by rw [bs_size]; rfl
  have hg0 := bs_get0 45 r
  have hx0 := bs_tail 45 r
  go_enter func173, ntmps173
  go_wp2_with first | (go_at_call_of 80 (Value.string (bs r)); go_must (refine (hD _).mono ?_); rintro e w1 ⟨rfl, rfl⟩)
  refine bodyPost_ret (results5 rfl _ _ _) rfl ?_
  exact ⟨ret_plain rfl (pos_isEmpty D1), Below.refl _ _⟩
 | cons c R2 =>
  rw [hR] at e2
  have hR2l : R2.length + 1 ≤ r.length := by
   have := congrArg List.length hR
   simp at this; omega
  clear hR
  have hR1 : (bs (c :: R2)).size = R2.length + 1 := by rw [bs_size]; rfl
  have hget := bs_get0 c R2
  simp only
  by_cases hc : c = 46
  ·
   subst hc
   rw [if_pos rfl]
   have hx := bs_tail 46 R2
   have hR2 := bs_size R2
   have hl2 : R2.length ≤ 100000000 := by omega
   obtain ⟨hn2, f1, f2, hD2⟩ := plainFacts R2 hl2
   have hD2s := bs_size (R2.take (digN R2))
   have hR3 := bs_size (R2.drop (digN R2))
   have hD2l : (R2.take (digN R2)).length ≤ R2.length := by simp; omega
   generalize R2.take (digN R2) = D2 at *
   generalize R2.drop (digN R2) = R3 at *
   generalize digN R2 = n2 at *
   have hcat := bs_append D1 D2
   have hcs : (bs (D1 ++ D2)).size = D1.length + D2.length := by rw [bs_size]; simp
   by_cases h3 : R3 = []
   ·
    subst h3
    have hR30 : (bs []).size = 0 := rfl
    have hfin : Hid (decide ((0 : Int) < (D1.length : Int) + (D2.length : Int)) = (([] : List UInt8).isEmpty && !(D1 ++ D2).isEmpty)) := by
     refine hid ?_
     cases D1 <;> cases D2 <;> simp <;> omega
    have hs0 : (bs (45 :: r)).size = r.length + 1 := by rw [bs_size]; rfl
    have hg0 := bs_get0 45 r
    have hx0 := bs_tail 45 r
    go_enter func173, ntmps173
    go_wp2_with first | (go_at_call_of 80 (Value.string (bs r)); go_must (refine (hD _).mono ?_); rintro e w1 ⟨rfl, rfl⟩) | (go_at_call_of 80 (Value.string (bs R2)); go_must (refine (hD2 _).mono ?_); rintro e w2 ⟨rfl, rfl⟩)
    refine bodyPost_ret (results5 rfl _ _ _) rfl ?_
    exact ⟨ret_plain rfl hfin.out, Below.refl _ _⟩
   ·
    have hz : ((R3.length : Int) == 0) = false := by
     rw [zero_isEmpty]; cases R3 <;> simp at *
    have hfin : Hid (false = (R3.isEmpty && !(D1 ++ D2).isEmpty)) := by
     refine hid ?_
     cases R3 <;> simp at *
    clear h3
    have hs0 : (bs (45 :: r)).size = r.length + 1 := by rw [bs_size]; rfl
    have hg0 := bs_get0 45 r
    have hx0 := bs_tail 45 r
    go_enter func173, ntmps173
    go_wp2_with first | (go_at_call_of 80 (Value.string (bs r)); go_must (refine (hD _).mono ?_); rintro e w1 ⟨rfl, rfl⟩) | (go_at_call_of 80 (Value.string (bs R2)); go_must (refine (hD2 _).mono ?_); rintro e w2 ⟨rfl, rfl⟩)
    refine bodyPost_ret (results5 rfl _ _ _) rfl ?_
    exact ⟨ret_plain rfl hfin.out, Below.refl _ _⟩
  ·
   rw [if_neg hc]
   have hc2 : ((c.toNat : Int) == 46) = false := by
    rw [beq_eq_false_iff_ne]; intro h; exact hc (UInt8.toNat_inj.1 (by show c.toNat = 46; omega))
   have hz : ((R2.length : Int) + 1 == 0) = false := by rw [beq_eq_false_iff_ne]; omega
   clear hc
   have hs0 : (bs (45 :: r)).size = r.length + 1 := by rw [bs_size]; rfl
   have hg0 := bs_get0 45 r
   have hx0 := bs_tail 45 r
   go_enter func173, ntmps173
   go_wp2_with first | (go_at_call_of 80 (Value.string (bs r)); go_must (refine (hD _).mono ?_); rintro e w1 ⟨rfl, rfl⟩)
   refine bodyPost_ret (results5 rfl _ _ _) rfl ?_
   exact ⟨ret_plain rfl rfl, Below.refl _ _⟩
set_option maxRecDepth 100000 in
set_option maxHeartbeats 4000000 in
theorem ref_plain_plus (r : List UInt8) (w : World) (hl : r.length + 1 ≤ 100000000) :
  Calls Tryz.prog 173 #[.string (bs (43 :: r))] w fun e w' => e = .returned (.tuple #[.bool false, .string (bs (plainR r).1), .int .i64 (plainR r).2.1, .bool (plainR r).2.2.1, .bool (plainR r).2.2.2]) ∧ Below w.heap.size w w' := by
 have hl1 : r.length ≤ 100000000 := by omega
 obtain ⟨hn1, e1, e2, hD⟩ := plainFacts r hl1
 have hP : plainR r = plainR r := rfl
 unfold plainR at hP ⊢
 clear hP
 have hr1 := bs_size r
 have hD1s := bs_size (r.take (digN r))
 have hD1l : (r.take (digN r)).length ≤ r.length := by simp; omega
 generalize r.take (digN r) = D1 at *
 generalize digN r = n1 at *
 cases hR : r.drop n1 with
 | nil =>
  rw [hR] at e2
  clear hR
  have hR1 : (bs []).size = 0 := rfl
  simp only
  have hs0 : (bs (43 :: r)).size = r.length + 1 := by rw [bs_size]; rfl
  have hg0 := bs_get0 43 r
  have hx0 := bs_tail 43 r
  go_enter func173, ntmps173
  go_wp2_with first | (go_at_call_of 80 (Value.string (bs r)); go_must (refine (hD _).mono ?_); rintro e w1 ⟨rfl, rfl⟩)
  refine bodyPost_ret (results5 rfl _ _ _) rfl ?_
  exact ⟨ret_plain rfl (pos_isEmpty D1), Below.refl _ _⟩
 | cons c R2 =>
  rw [hR] at e2
  have hR2l : R2.length + 1 ≤ r.length := by
   have := congrArg List.length hR
   simp at this; omega
  clear hR
  have hR1 : (bs (c :: R2)).size = R2.length + 1 := by rw [bs_size]; rfl
  have hget := bs_get0 c R2
  simp only
  by_cases hc : c = 46
  ·
   subst hc
   rw [if_pos rfl]
   have hx := bs_tail 46 R2
   have hR2 := bs_size R2
   have hl2 : R2.length ≤ 100000000 := by omega
   obtain ⟨hn2, f1, f2, hD2⟩ := plainFacts R2 hl2
   have hD2s := bs_size (R2.take (digN R2))
   have hR3 := bs_size (R2.drop (digN R2))
   have hD2l : (R2.take (digN R2)).length ≤ R2.length := by simp; omega
   generalize R2.take (digN R2) = D2 at *
   generalize R2.drop (digN R2) = R3 at *
   generalize digN R2 = n2 at *
   have hcat := bs_append D1 D2
   have hcs : (bs (D1 ++ D2)).size = D1.length + D2.length := by rw [bs_size]; simp
   by_cases h3 : R3 = []
   ·
    subst h3
    have hR30 : (bs []).size = 0 := rfl
    have hfin : Hid (decide ((0 : Int) < (D1.length : Int) + (D2.length : Int)) = (([] : List UInt8).isEmpty && !(D1 ++ D2).isEmpty)) := by
     refine hid ?_
     cases D1 <;> cases D2 <;> simp <;> omega
    have hs0 : (bs (43 :: r)).size = r.length + 1 := by rw [bs_size]; rfl
    have hg0 := bs_get0 43 r
    have hx0 := bs_tail 43 r
    go_enter func173, ntmps173
    go_wp2_with first | (go_at_call_of 80 (Value.string (bs r)); go_must (refine (hD _).mono ?_); rintro e w1 ⟨rfl, rfl⟩) | (go_at_call_of 80 (Value.string (bs R2)); go_must (refine (hD2 _).mono ?_); rintro e w2 ⟨rfl, rfl⟩)
    refine bodyPost_ret (results5 rfl _ _ _) rfl ?_
    exact ⟨ret_plain rfl hfin.out, Below.refl _ _⟩
   ·
    have hz : ((R3.length : Int) == 0) = false := by
     rw [zero_isEmpty]; cases R3 <;> simp at *
    have hfin : Hid (false = (R3.isEmpty && !(D1 ++ D2).isEmpty)) := by
     refine hid ?_
     cases R3 <;> simp at *
    clear h3
    have hs0 : (bs (43 :: r)).size = r.length + 1 := by rw [bs_size]; rfl
    have hg0 := bs_get0 43 r
    have hx0 := bs_tail 43 r
    go_enter func173, ntmps173
    go_wp2_with first | (go_at_call_of 80 (Value.string (bs r)); go_must (refine (hD _).mono ?_); rintro e w1 ⟨rfl, rfl⟩) | (go_at_call_of 80 (Value.string (bs R2)); go_must (refine (hD2 _).mono ?_); rintro e w2 ⟨rfl, rfl⟩)
    refine bodyPost_ret (results5 rfl _ _ _) rfl ?_
    exact ⟨ret_plain rfl hfin.out, Below.refl _ _⟩
  ·
   rw [if_neg hc]
   have hc2 : ((c.toNat : Int) == 46) = false := by
    rw [beq_eq_false_iff_ne]; intro h; exact hc (UInt8.toNat_inj.1 (by show c.toNat = 46; omega))
   have hz : ((R2.length : Int) + 1 == 0) = false := by rw [beq_eq_false_iff_ne]; omega
   clear hc
   have hs0 : (bs (43 :: r)).size = r.length + 1 := by rw [bs_size]; rfl
   have hg0 := bs_get0 43 r
   have hx0 := bs_tail 43 r
   go_enter func173, ntmps173
   go_wp2_with first | (go_at_call_of 80 (Value.string (bs r)); go_must (refine (hD _).mono ?_); rintro e w1 ⟨rfl, rfl⟩)
   refine bodyPost_ret (results5 rfl _ _ _) rfl ?_
   exact ⟨ret_plain rfl rfl, Below.refl _ _⟩
set_option maxRecDepth 100000 in
set_option maxHeartbeats 4000000 in
theorem ref_plain_none (r : List UInt8) (w : World) (hl : r.length ≤ 100000000) (b0 : UInt8) (r' : List UInt8) (hr' : r = b0 :: r') (hb45 : b0 ≠ 45) (hb43 : b0 ≠ 43) :
  Calls Tryz.prog 173 #[.string (bs r)] w fun e w' => e = .returned (.tuple #[.bool false, .string (bs (plainR r).1), .int .i64 (plainR r).2.1, .bool (plainR r).2.2.1, .bool (plainR r).2.2.2]) ∧ Below w.heap.size w w' := by
 have hl1 : r.length ≤ 100000000 := by omega
 obtain ⟨hn1, e1, e2, hD⟩ := plainFacts r hl1
 have hP : plainR r = plainR r := rfl
 unfold plainR at hP ⊢
 clear hP
 have hr1 := bs_size r
 have hD1s := bs_size (r.take (digN r))
 have hD1l : (r.take (digN r)).length ≤ r.length := by simp; omega
 generalize r.take (digN r) = D1 at *
 generalize digN r = n1 at *
 cases hR : r.drop n1 with
 | nil =>
  rw [hR] at e2
  clear hR
  have hR1 : (bs []).size = 0 := rfl
  simp only
  have hg0 : ∀ h, (bs r)[0]'h = b0 := by subst hr'; exact bs_get0 b0 r'
  have hrl : 0 < r.length := by rw [hr']; simp
  have e45 : ((b0.toNat : Int) == 45) = false := by rw [beq_eq_false_iff_ne]; intro h; exact hb45 (UInt8.toNat_inj.1 (by show b0.toNat = 45; omega))
  have e43 : ((b0.toNat : Int) == 43) = false := by rw [beq_eq_false_iff_ne]; intro h; exact hb43 (UInt8.toNat_inj.1 (by show b0.toNat = 43; omega))
  clear hr' hb45 hb43
  go_enter func173, ntmps173
  go_wp2_with first | (go_at_call_of 80 (Value.string (bs r)); go_must (refine (hD _).mono ?_); rintro e w1 ⟨rfl, rfl⟩)
  refine bodyPost_ret (results5 rfl _ _ _) rfl ?_
  exact ⟨ret_plain rfl (pos_isEmpty D1), Below.refl _ _⟩
 | cons c R2 =>
  rw [hR] at e2
  have hR2l : R2.length + 1 ≤ r.length := by
   have := congrArg List.length hR
   simp at this; omega
  clear hR
  have hR1 : (bs (c :: R2)).size = R2.length + 1 := by rw [bs_size]; rfl
  have hget := bs_get0 c R2
  simp only
  by_cases hc : c = 46
  ·
   subst hc
   rw [if_pos rfl]
   have hx := bs_tail 46 R2
   have hR2 := bs_size R2
   have hl2 : R2.length ≤ 100000000 := by omega
   obtain ⟨hn2, f1, f2, hD2⟩ := plainFacts R2 hl2
   have hD2s := bs_size (R2.take (digN R2))
   have hR3 := bs_size (R2.drop (digN R2))
   have hD2l : (R2.take (digN R2)).length ≤ R2.length := by simp; omega
   generalize R2.take (digN R2) = D2 at *
   generalize R2.drop (digN R2) = R3 at *
   generalize digN R2 = n2 at *
   have hcat := bs_append D1 D2
   have hcs : (bs (D1 ++ D2)).size = D1.length + D2.length := by rw [bs_size]; simp
   by_cases h3 : R3 = []
   ·
    subst h3
    have hR30 : (bs []).size = 0 := rfl
    have hfin : Hid (decide ((0 : Int) < (D1.length : Int) + (D2.length : Int)) = (([] : List UInt8).isEmpty && !(D1 ++ D2).isEmpty)) := by
     refine hid ?_
     cases D1 <;> cases D2 <;> simp <;> omega
    have hg0 : ∀ h, (bs r)[0]'h = b0 := by subst hr'; exact bs_get0 b0 r'
    have hrl : 0 < r.length := by rw [hr']; simp
    have e45 : ((b0.toNat : Int) == 45) = false := by rw [beq_eq_false_iff_ne]; intro h; exact hb45 (UInt8.toNat_inj.1 (by show b0.toNat = 45; omega))
    have e43 : ((b0.toNat : Int) == 43) = false := by rw [beq_eq_false_iff_ne]; intro h; exact hb43 (UInt8.toNat_inj.1 (by show b0.toNat = 43; omega))
    clear hr' hb45 hb43
    go_enter func173, ntmps173
    go_wp2_with first | (go_at_call_of 80 (Value.string (bs r)); go_must (refine (hD _).mono ?_); rintro e w1 ⟨rfl, rfl⟩) | (go_at_call_of 80 (Value.string (bs R2)); go_must (refine (hD2 _).mono ?_); rintro e w2 ⟨rfl, rfl⟩)
    refine bodyPost_ret (results5 rfl _ _ _) rfl ?_
    exact ⟨ret_plain rfl hfin.out, Below.refl _ _⟩
   ·
    have hz : ((R3.length : Int) == 0) = false := by
     rw [zero_isEmpty]; cases R3 <;> simp at *
    have hfin : Hid (false = (R3.isEmpty && !(D1 ++ D2).isEmpty)) := by
     refine hid ?_
     cases R3 <;> simp at *
    clear h3
    have hg0 : ∀ h, (bs r)[0]'h = b0 := by subst hr'; exact bs_get0 b0 r'
    have hrl : 0 < r.length := by rw [hr']; simp
    have e45 : ((b0.toNat : Int) == 45) = false := by rw [beq_eq_false_iff_ne]; intro h; exact hb45 (UInt8.toNat_inj.1 (by show b0.toNat = 45; omega))
    have e43 : ((b0.toNat : Int) == 43) = false := by rw [beq_eq_false_iff_ne]; intro h; exact hb43 (UInt8.toNat_inj.1 (by show b0.toNat = 43; omega))
    clear hr' hb45 hb43
    go_enter func173, ntmps173
    go_wp2_with first | (go_at_call_of 80 (Value.string (bs r)); go_must (refine (hD _).mono ?_); rintro e w1 ⟨rfl, rfl⟩) | (go_at_call_of 80 (Value.string (bs R2)); go_must (refine (hD2 _).mono ?_); rintro e w2 ⟨rfl, rfl⟩)
    refine bodyPost_ret (results5 rfl _ _ _) rfl ?_
    exact ⟨ret_plain rfl hfin.out, Below.refl _ _⟩
  ·
   rw [if_neg hc]
   have hc2 : ((c.toNat : Int) == 46) = false := by
    rw [beq_eq_false_iff_ne]; intro h; exact hc (UInt8.toNat_inj.1 (by show c.toNat = 46; omega))
   have hz : ((R2.length : Int) + 1 == 0) = false := by rw [beq_eq_false_iff_ne]; omega
   clear hc
   have hg0 : ∀ h, (bs r)[0]'h = b0 := by subst hr'; exact bs_get0 b0 r'
   have hrl : 0 < r.length := by rw [hr']; simp
   have e45 : ((b0.toNat : Int) == 45) = false := by rw [beq_eq_false_iff_ne]; intro h; exact hb45 (UInt8.toNat_inj.1 (by show b0.toNat = 45; omega))
   have e43 : ((b0.toNat : Int) == 43) = false := by rw [beq_eq_false_iff_ne]; intro h; exact hb43 (UInt8.toNat_inj.1 (by show b0.toNat = 43; omega))
   clear hr' hb45 hb43
   go_enter func173, ntmps173
   go_wp2_with first | (go_at_call_of 80 (Value.string (bs r)); go_must (refine (hD _).mono ?_); rintro e w1 ⟨rfl, rfl⟩)
   refine bodyPost_ret (results5 rfl _ _ _) rfl ?_
   exact ⟨ret_plain rfl rfl, Below.refl _ _⟩
theorem ref_plain (l : List UInt8) (w : World) (hl : l.length ≤ 100000000) :
    Calls Tryz.prog 173 #[.string (bs l)] w fun e w' => e = .returned (.tuple #[.bool (signedL l).1, .string (bs (plainR (signedL l).2).1), .int .i64 (plainR (signedL l).2).2.1, .bool (plainR (signedL l).2).2.2.1, .bool (plainR (signedL l).2).2.2.2]) ∧ Below w.heap.size w w' := by
  cases l with
  | nil =>
    have hD := fun w => ref_Digits [] w (by simp)
    have hs : (bs []).size = 0 := rfl
    have hx : (bs []).extract 0 0 = bs [] := rfl
    have e0 : digN [] = 0 := rfl
    rw [e0] at hD
    go_enter func173, ntmps173
    go_wp2_with (go_at_call 80; go_must (refine (hD _).mono ?_); rintro e w1 ⟨rfl, rfl⟩)
    refine bodyPost_ret (results5 rfl _ _ _) rfl ?_
    exact ⟨rfl, Below.refl _ _⟩
  | cons c t =>
    by_cases h1 : c = 45
    · subst h1
      have e : signedL (45 :: t) = (true, t) := by simp [signedL]
      rw [e]; exact ref_plain_minus t w hl
    · by_cases h2 : c = 43
      · subst h2
        have e : signedL (43 :: t) = (false, t) := by simp [signedL]
        rw [e]; exact ref_plain_plus t w hl
      · have e : signedL (c :: t) = (false, c :: t) := by simp [signedL, h1, h2]
        rw [e]; exact ref_plain_none (c :: t) w hl c t rfl h1 h2
end
section
/-- digits ahead of the point, and those behind it -/
def wholeD (digits : List UInt8) (p : Int) : List UInt8 := digits.take p.toNat ++ List.replicate (p.toNat - digits.length) 48
def restD (digits : List UInt8) (p : Int) : List UInt8 := List.replicate (-p).toNat 48 ++ digits.drop p.toNat
theorem wholeD_len (digits : List UInt8) (p : Int) : (wholeD digits p).length = p.toNat := by simp [wholeD]; omega
theorem wholeD_at (digits : List UInt8) (p : Int) (k : Nat) (h : k < (wholeD digits p).length) : (wholeD digits p)[k] = if hk : k < digits.length then digits[k] else 48 := by
 have h' := wholeD_len digits p
 apply Option.some.inj
 rw [← List.getElem?_eq_getElem h]
 unfold wholeD
 by_cases hk : k < digits.length
 ·
  rw [dif_pos hk, List.getElem?_append_left (by simp; omega), List.getElem?_take, if_pos (by omega), List.getElem?_eq_getElem hk]
 ·
  rw [dif_neg hk, List.getElem?_append_right (by simp; omega), List.getElem?_replicate, if_pos (by simp; omega)]
theorem natOf_mono (a b : List UInt8) : natOf a ≤ natOf (a ++ b) := by
 unfold natOf
 rw [List.foldl_append]
 generalize a.foldl (fun n c => 10 * n + (c.toNat - 48)) 0 = n
 induction b generalizing n with
 | nil => simp
 | cons c r ih =>
  rw [List.foldl_cons]
  exact Nat.le_trans (by omega) (ih _)
theorem natOf_take_le (l : List UInt8) (k : Nat) : natOf (l.take k) ≤ natOf l := by
 conv => rhs; rw [← List.take_append_drop k l]
 exact natOf_mono _ _
theorem natOf_trim (l : List UInt8) : natOf (l.dropWhile (· == 48)) = natOf l := by
 induction l with
 | nil => rfl
 | cons c r ih =>
  rw [List.dropWhile_cons]
  split
  ·
   next h =>
   rw [ih]
   have : c = 48 := by simpa using h
   subst this
   simp [natOf]
  ·
   rfl
theorem natOf_ge (l : List UInt8) (n : Nat) : n * 10 ^ l.length ≤ l.foldl (fun n c => 10 * n + (c.toNat - 48)) n := by
 induction l generalizing n with
 | nil => simp
 | cons c r ih =>
  rw [List.foldl_cons, List.length_cons, Nat.pow_succ]
  refine Nat.le_trans ?_ (ih _)
  rw [Nat.mul_comm (10 ^ r.length) 10, ← Nat.mul_assoc]
  exact Nat.mul_le_mul_right _ (by omega)
theorem trim_long (l : List UInt8) (h : ∀ c ∈ l, isDig c = true) : 5 < (l.dropWhile (· == 48)).length ↔ 99999 < natOf l := by
 rw [← natOf_trim l]
 have ht : ∀ c ∈ l.dropWhile (· == 48), isDig c = true := fun c hc => h c (List.dropWhile_sublist _ |>.subset hc)
 constructor
 ·
  intro hl
  cases hd : l.dropWhile (· == 48) with
  | nil => rw [hd] at hl; simp at hl
  | cons c r =>
   have hc : (c == 48) = false := by
    have := List.head_dropWhile_not (p := (· == 48)) (l := l) (by rw [hd]; simp)
    simpa [hd] using this
   have hc1 := isDig_bounds (ht c (by rw [hd]; simp))
   have hc2 : c ≠ 48 := by simpa using hc
   have hc3 : 1 ≤ c.toNat - 48 := by
    rcases Nat.lt_or_ge 48 c.toNat with h' | h'
    ·
     omega
    ·
     exact absurd (UInt8.toNat_inj.1 (by show c.toNat = 48; omega)) hc2
   rw [hd] at hl
   simp only [List.length_cons] at hl
   have h1 := natOf_ge r (10 * 0 + (c.toNat - 48))
   have h2 : 1 * 10 ^ 5 ≤ (10 * 0 + (c.toNat - 48)) * 10 ^ r.length := Nat.mul_le_mul (by omega) (Nat.pow_le_pow_right (by decide) (by omega))
   unfold natOf
   rw [List.foldl_cons]
   omega
 ·
  intro hn
  rcases Nat.lt_or_ge 5 (l.dropWhile (· == 48)).length with h' | h'
  ·
   exact h'
  ·
   have h1 := natOf_lt _ ht
   have h2 : 10 ^ (l.dropWhile (· == 48)).length ≤ 10 ^ 5 := Nat.pow_le_pow_right (by decide) h'
   omega
/-- the rounds' whole part is by itself -/
theorem rounds_split (k : Nat) : ∀ (n : Int) (d : List Nat), rounds k n d = (n * 2 ^ k + (rounds k 0 d).1, (rounds k 0 d).2) := by
 induction k with
 | zero => intro n d; simp [rounds]
 | succ k ih =>
  intro n d
  rw [rounds, rounds, ih, ih (2 * 0 + (dbl d).2)]
  rw [Int.pow_succ]
  ext
  ·
   simp only
   rw [Int.add_mul, Int.mul_zero, Int.zero_add, Int.mul_comm 2 n, Int.mul_assoc, Int.mul_comm 2 (2 ^ k)]
   omega
  ·
   rfl
theorem rounds_snoc (k : Nat) : ∀ (n : Int) (d : List Nat), rounds (k + 1) n d = (2 * (rounds k n d).1 + (dbl (rounds k n d).2).2, (dbl (rounds k n d).2).1) := by
 induction k with
 | zero => intro n d; rfl
 | succ k ih => intro n d; rw [rounds, ih]; rfl
theorem rounds_digits (k : Nat) : ∀ (n : Int) (d : List Nat), (∀ x ∈ d, x < 10) → ∀ x ∈ (rounds k n d).2, x < 10 := by
 induction k with
 | zero => intro n d h; exact h
 | succ k ih => intro n d h; exact ih _ _ (dbl_digits d)
theorem rawL_big (W R : List UInt8) (h : ∀ c ∈ W, isDig c = true) (hn : 99999 < natOf W) : rawL W R = none := by
 unfold rawL; rw [if_pos ((trim_long W h).2 hn)]
theorem rawL_fit (W R : List UInt8) (h : ∀ c ∈ W, isDig c = true) (hR : ∀ c ∈ R, isDig c = true) (hn : natOf W ≤ 99999) (b : Int) (d : List Nat) (hb : rounds 17 0 (digitsOf R) = (b, d)) :
  rawL W R = some ((natOf W : Int) * 65536 + (b + 1) / 2) := by
 unfold rawL
 rw [if_neg (fun h' => by have := (trim_long W h).1 h'; omega), natOf_trim, rounds_split]
 rw [rounds_snoc] at hb
 have hc := dbl_carry _ (rounds_digits 16 0 _ (digitsOf_lt R hR))
 simp only [Prod.mk.injEq] at hb
 have e : (2 : Int) ^ 16 = 65536 := by decide
 rw [e]
 generalize rounds 16 0 (digitsOf R) = q at *
 have hb1 := hb.1
 generalize (natOf W : Int) = N
 have : N * 65536 + q.1 + ((dbl q.2).2 : Int) = N * 65536 + (b + 1) / 2 := by omega
 exact congrArg some this
end
section
theorem infoInt : (Tryz.prog.info? 3).map (fun i => (i.zero, i.size, i.bytes)) = some (some (.int .i64 0), 1, 8) := by kernel_rfl
def i64s (l : List Nat) : List Value := l.map fun (x : Nat) => Value.int .i64 (x : Int)
/-- an owned row as cells -/
theorem owned_cells {w : World} {B : Nat} {e : TypeId} {v : Value} {n : Nat} {xs : List Value} (h : w.ownsRow B e 1 v n xs) :
  ∃ ao cap, v = .slice ao n cap ∧ (0 < n → ∃ g, ao = some ⟨g, 0, none⟩ ∧ B ≤ g ∧ BRow w g xs) := by
 obtain ⟨hl, h⟩ := h
 rcases h with ⟨rfl, rfl⟩ | ⟨g, cap, cur, rfl, hB, hg, hnc, hcm, hcs, htake⟩
 ·
  exact ⟨none, 0, rfl, fun h => absurd h (by omega)⟩
 ·
  refine ⟨_, cap, rfl, fun _ => ⟨g, rfl, hB, ?_⟩⟩
  intro j u hj
  have hc := Lib.cell_of_heap hg j
  have hf := Lib.frozen_of_heap hg j
  refine ⟨?_, hf⟩
  rw [hc, ← Array.getElem?_toList]
  rw [← htake, List.getElem?_take] at hj
  split at hj
  ·
   exact hj
  ·
   cases hj
set_option maxRecDepth 100000 in
set_option maxHeartbeats 2000000 in
/-- the whole part is too great -/
theorem ref_scaled_big (digits : List UInt8) (p : Int) (w : World) (hp : p ≤ 2000) (hdig : ∀ c ∈ digits, isDig c = true) (hbig : 99999 < natOf (wholeD digits p)) :
    Calls Tryz.prog 174 #[.string (bs digits), .int .i64 p] w fun e w' => e = .returned (.tuple #[.int .i64 0, .bool false]) ∧ w = w' := by
  have hs := bs_size digits
  have hW := wholeD_len digits p
  have hWd : ∀ (k : Nat) (h : k < (wholeD digits p).length), isDig ((wholeD digits p)[k]) = true := by
    intro k h
    rw [wholeD_at]
    split
    · exact hdig _ (List.getElem_mem _)
    · rfl
  have hat := wholeD_at digits p
  have Hat := hid hat; have HWd := hid hWd; clear hat hWd
  generalize wholeD digits p = W at *
  go_enter func174, ntmps174
  go_wp2
  go_loop [6, 7, 8] (fun n i _ => ∃ k : Nat, k ≤ W.length ∧ i = .int .i64 k ∧ n = .int .i64 (natOf (W.take k) : Int) ∧ natOf (W.take k) ≤ 99999) (fun _ i _ => W.length - (intOf i).toNat)
  case atStart => exact ⟨0, Nat.zero_le _, rfl, rfl, by simp [natOf]⟩
  case round =>
    obtain ⟨k, hk, rfl, rfl, hle⟩ := hrel
    by_cases hkl : k < W.length
    · have hkp : (k : Int) < p := by omega
      have hstep := natOf_take W k hkl
      have hd := isDig_bounds (HWd.out k hkl)
      have hwk := Hat.out k hkl
      by_cases hkd : k < digits.length
      · rw [dif_pos hkd] at hwk
        obtain ⟨c, hc⟩ : ∃ c, c = digits[k] := ⟨_, rfl⟩
        have hget : ∀ h, (bs digits)[k]'h = c := fun _ => hc.symm
        rw [hwk, ← hc] at hstep hd
        clear hc hwk
        have Hstep := hid hstep; clear hstep
        by_cases hnext : 10 * natOf (W.take k) + (c.toNat - 48) ≤ 99999
        all_goals
          generalize natOf (W.take k) = N at *
          go_wp2
          first
            | (go_ret2; exact ⟨rfl, rfl⟩)
            | (go_round
               case rel => exact ⟨k + 1, by omega, by go_num, by rw [Hstep.out]; go_num, by rw [Hstep.out]; exact hnext⟩
               case measure => simp [intOf]; omega)
      · rw [dif_neg hkd] at hwk
        rw [hwk] at hstep hd
        clear hwk
        have e48 : (48 : UInt8).toNat - 48 = 0 := rfl
        rw [e48, Nat.add_zero] at hstep
        have Hstep := hid hstep; clear hstep e48
        by_cases hnext : 10 * natOf (W.take k) ≤ 99999
        all_goals
          generalize natOf (W.take k) = N at *
          go_wp2
          first
            | (go_ret2; exact ⟨rfl, rfl⟩)
            | (go_round
               case rel => exact ⟨k + 1, by omega, by go_num, by rw [Hstep.out]; go_num, by rw [Hstep.out]; exact hnext⟩
               case measure => simp [intOf]; omega)
    · obtain rfl : k = W.length := by omega
      rw [List.take_length] at hle
      omega
theorem restD_snoc (digits : List UInt8) (P k : Nat) (hk : k < digits.length) : (digits.take (k + 1)).drop P = if P ≤ k then (digits.take k).drop P ++ [digits[k]] else (digits.take k).drop P := by
 rw [List.take_succ_eq_append_getElem hk, List.drop_append]
 have e : (digits.take k).length = k := by simp; omega
 rw [e]
 split
 ·
  next h => rw [show P - k = 0 from by omega]; rfl
 ·
  next h =>
  have : ([digits[k]] : List UInt8).drop (P - k) = [] := List.drop_eq_nil_of_le (by simp; omega)
  rw [this, List.append_nil]
set_option maxRecDepth 100000 in
set_option maxHeartbeats 8000000 in
theorem ref_scaled_fit (digits : List UInt8) (p : Int) (w : World) (hl : digits.length ≤ 1000) (hp0 : -2000 ≤ p) (hp : p ≤ 2000) (hdig : ∀ c ∈ digits, isDig c = true) (hfit : natOf (wholeD digits p) ≤ 99999) :
    Calls Tryz.prog 174 #[.string (bs digits), .int .i64 p] w fun e w' => e = .returned (.tuple #[.int .i64 ((natOf (wholeD digits p) : Int) * 65536 + ((rounds 17 0 (digitsOf (restD digits p))).1 + 1) / 2), .bool true]) ∧ Below w.heap.size w w' := by
  obtain ⟨i0, hi, hz0, hz1, hz2⟩ := info_parts infoInt
  have hs := bs_size digits
  have hW := wholeD_len digits p
  have hWd : ∀ (k : Nat) (h : k < (wholeD digits p).length), isDig ((wholeD digits p)[k]) = true := by
    intro k h
    rw [wholeD_at]
    split
    · exact hdig _ (List.getElem_mem _)
    · rfl
  have hat := wholeD_at digits p
  have hmono := fun k => Nat.le_trans (natOf_take_le (wholeD digits p) k) hfit
  have Hat := hid hat; have HWd := hid hWd; have Hmono := hid hmono; have Hdig := hid hdig; clear hat hWd hmono hdig
  have Hi := hid hi; have Hz0 := hid hz0; have Hz1 := hid hz1; have Hz2 := hid hz2; clear hi hz0 hz1 hz2
  have hR : restD digits p = List.replicate (-p).toNat 48 ++ (digits.take digits.length).drop p.toNat := by rw [List.take_length]; rfl
  have HR := hid hR; clear hR
  generalize wholeD digits p = W at *
  go_enter func174, ntmps174
  go_wp2
  go_loop [6, 7, 8] (fun n i _ => ∃ k : Nat, k ≤ W.length ∧ i = .int .i64 k ∧ n = .int .i64 (natOf (W.take k) : Int)) (fun _ i _ => W.length - (intOf i).toNat)
  case atStart => exact ⟨0, Nat.zero_le _, rfl, rfl⟩
  case round =>
    obtain ⟨k, hk, rfl, rfl⟩ := hrel
    by_cases hkl : k < W.length
    · have hkp : (k : Int) < p := by omega
      have hstep := natOf_take W k hkl
      have hd := isDig_bounds (HWd.out k hkl)
      have hwk := Hat.out k hkl
      have hm1 := Hmono.out k
      have hm2 := Hmono.out (k + 1)
      by_cases hkd : k < digits.length
      · rw [dif_pos hkd] at hwk
        obtain ⟨c, hc⟩ : ∃ c, c = digits[k] := ⟨_, rfl⟩
        have hget : ∀ h, (bs digits)[k]'h = c := fun _ => hc.symm
        rw [hwk, ← hc] at hstep hd
        rw [hstep] at hm2
        clear hc hwk
        have Hstep := hid hstep; clear hstep
        generalize natOf (W.take k) = N at *
        go_wp2
        go_round
        case rel => exact ⟨k + 1, by omega, by go_num, by rw [Hstep.out]; go_num⟩
        case measure => simp [intOf]; omega
      · rw [dif_neg hkd] at hwk
        rw [hwk] at hstep hd
        clear hwk
        have e48 : (48 : UInt8).toNat - 48 = 0 := rfl
        rw [e48, Nat.add_zero] at hstep
        rw [hstep] at hm2
        have Hstep := hid hstep; clear hstep e48
        generalize natOf (W.take k) = N at *
        go_wp2
        go_round
        case rel => exact ⟨k + 1, by omega, by go_num, by rw [Hstep.out]; go_num⟩
        case measure => simp [intOf]; omega
    · obtain rfl : k = W.length := by omega
      rw [List.take_length]
      clear Hat HWd Hmono hkl
      generalize hgw : natOf W = nW at *
      have Hgw := hid hgw; clear hgw
      generalize W.length = lW at *
      go_wp2
      go_loopw [9, 10] (fun v i wr => ∃ k : Nat, k ≤ (-p).toNat ∧ i = .int .i64 (p + (k : Int)) ∧ wr.ownsRow w.heap.size 3 1 v k (i64s (digitsOf (List.replicate k 48))) ∧ Below w.heap.size w wr) (fun _ i _ => (-(intOf i)).toNat)
      case atStart => exact ⟨0, Nat.zero_le _, by go_num, World.ownsRow_nil _ _ _ _, Below.refl _ _⟩
      case round =>
        obtain ⟨k, hk, rfl, hown, hbel⟩ := hrel
        have hsz := hbel.size
        by_cases hneg : p + (k : Int) < 0
        · go_wp2_with (at_builtin; go_must (refine wpList_append_own _ rfl _ _ 82 rfl w.heap.size 3 i0 (.int .i64 0) 1 8 underlying82 Hi.out Hz0.out Hz1.out Hz2.out rfl (by decide) _ _ _ rfl (hown.alloc _) ⟨wr.heap.size, 0, none⟩ 1 1 [.int .i64 0] rfl rfl ?c1 ?c2 ?c3 ?c4 ?c5 ?_))
          case c1 =>
            intro j u hj
            match j, hj with
            | 0, hj => simp at hj; subst hj; simp [Addr.add]
          case c2 => intro u hu; simp at hu; subst hu; rfl
          case c3 => unfold maxLen; omega
          case c4 => omega
          case c5 => simp; omega
          intro v' w2 hown' hgrow _
          have hb2 : Below w.heap.size w w2 := (hbel.alloc hsz _).grown hgrow (by simp; omega) (fun j hj => (hown.lt j hj).1)
          have Hown := hid hown'; clear hown' hgrow
          go_wp2
          go_roundw
          case rel =>
            refine ⟨k + 1, by omega, by go_num, ?_, hb2⟩
            have e : i64s (digitsOf (List.replicate (k + 1) 48)) = i64s (digitsOf (List.replicate k 48)) ++ [.int .i64 0] := by
              rw [List.replicate_succ']; simp [i64s, digitsOf]
            rw [e]; exact Hown.out
          case measure => simp [intOf]; omega
        · have hkz : k = (-p).toNat := by omega
          have Hkz := hid hkz
          clear hkz
          obtain ⟨wo, rfl⟩ : ∃ wo : World, wo = wr := ⟨_, rfl⟩
          go_wp2
          go_loopw [9, 11] (fun v i wr => ∃ j : Nat, j ≤ digits.length ∧ i = .int .i64 j ∧ wr.ownsRow w.heap.size 3 1 v (List.replicate k 48 ++ (digits.take j).drop p.toNat).length (i64s (digitsOf (List.replicate k 48 ++ (digits.take j).drop p.toNat))) ∧ Below w.heap.size w wr) (fun _ i _ => digits.length - (intOf i).toNat)
          case atStart => exact ⟨0, Nat.zero_le _, rfl, by simpa using hown, hbel⟩
          case round =>
            obtain ⟨j, hj, rfl, hown2, hbel2⟩ := hrel
            clear hown hbel hsz
            have hsz := hbel2.size
            have hLl : (List.replicate k (48 : UInt8) ++ (digits.take j).drop p.toNat).length ≤ 3000 := by simp; omega
            by_cases hjl : j < digits.length
            · have hsn := restD_snoc digits p.toNat j hjl
              have hd := isDig_bounds (Hdig.out digits[j] (List.getElem_mem _))
              obtain ⟨c, hc⟩ : ∃ c, c = digits[j] := ⟨_, rfl⟩
              have hget : ∀ h, (bs digits)[j]'h = c := fun _ => hc.symm
              rw [← hc] at hsn hd
              clear hc
              by_cases hjp : p ≤ (j : Int)
              · rw [if_pos (by omega)] at hsn
                have hsn2 : List.replicate k (48 : UInt8) ++ (digits.take (j + 1)).drop p.toNat = (List.replicate k 48 ++ (digits.take j).drop p.toNat) ++ [c] := by rw [hsn, List.append_assoc]
                have Hsn := hid hsn2; clear hsn hsn2
                generalize List.replicate k (48 : UInt8) ++ (digits.take j).drop p.toNat = L at *
                go_wp2_with (at_builtin; go_must (refine wpList_append_own _ rfl _ _ 82 rfl w.heap.size 3 i0 (.int .i64 0) 1 8 underlying82 Hi.out Hz0.out Hz1.out Hz2.out rfl (by decide) _ _ _ rfl (hown2.alloc _) ⟨wr.heap.size, 0, none⟩ 1 1 [.int .i64 ((c.toNat : Int) - 48)] rfl rfl ?c1 ?c2 ?c3 ?c4 ?c5 ?_))
                case c1 =>
                  intro j u hj
                  match j, hj with
                  | 0, hj => simp at hj; subst hj; simp [Addr.add]
                case c2 => intro u hu; simp at hu; subst hu; rfl
                case c3 => unfold maxLen; omega
                case c4 => omega
                case c5 => simp; omega
                intro v' w2 hown' hgrow _
                have hb2 : Below w.heap.size w w2 := (hbel2.alloc hsz _).grown hgrow (by simp; omega) (fun j hj => (hown2.lt j hj).1)
                have Hown := hid hown'; clear hown' hgrow hown2
                go_wp2
                go_roundw
                case rel =>
                  refine ⟨j + 1, by omega, by go_num, ?_, hb2⟩
                  rw [Hsn.out]
                  have e : i64s (digitsOf (L ++ [c])) = i64s (digitsOf L) ++ [.int .i64 ((c.toNat : Int) - 48)] := by
                    have e3 : ((c.toNat - 48 : Nat) : Int) = (c.toNat : Int) - 48 := by omega
                    simp [i64s, digitsOf, e3]
                  rw [e, List.length_append]; exact Hown.out
                case measure => simp [intOf]; omega
              · rw [if_neg (by omega)] at hsn
                have Hsn := hid hsn; clear hsn
                generalize hgL : List.replicate k (48 : UInt8) ++ (digits.take j).drop p.toNat = L at *
                have HgL := hid hgL; clear hgL
                have Hown := hid hown2; clear hown2
                go_wp2
                go_roundw
                case rel =>
                  refine ⟨j + 1, by omega, by go_num, ?_, hbel2⟩
                  rw [Hsn.out, HgL.out]; exact Hown.out
                case measure => simp [intOf]; omega
            · obtain rfl : j = digits.length := by omega
              rw [Hkz.out, ← HR.out] at hown2 hLl
              clear HR hjl
              have hRd : ∀ c ∈ restD digits p, isDig c = true := by
                intro c hc
                rw [restD, List.mem_append] at hc
                rcases hc with hc | hc
                · rw [List.mem_replicate] at hc; rw [hc.2]; rfl
                · exact Hdig.out c (List.mem_of_mem_drop hc)
              have hdl := digitsOf_len (restD digits p)
              have hdd := digitsOf_lt (restD digits p) hRd
              obtain ⟨ao, cap, rfl, hcells⟩ := owned_cells hown2
              have Hdl := hid hdl; have Hdd := hid hdd; have Hcells := hid hcells; clear hdl hdd hcells hRd hown2
              generalize hgd : digitsOf (restD digits p) = d0 at *
              have Hgd := hid hgd; clear hgd
              generalize (restD digits p).length = n at *
              obtain ⟨wq, rfl⟩ : ∃ wq : World, wq = wr := ⟨_, rfl⟩
              obtain ⟨g, hgao, hrow0⟩ : ∃ g, (0 < n → ao = some ⟨g, 0, none⟩ ∧ w.heap.size ≤ g) ∧ BRow wq g (i64s d0) := by
                rcases Nat.eq_zero_or_pos n with h0 | h0
                · refine ⟨0, fun h => absurd h (by omega), ?_⟩
                  have : d0 = [] := List.eq_nil_of_length_eq_zero (by rw [Hdl.out]; exact h0)
                  rw [this]; intro j v hj; simp [i64s] at hj
                · obtain ⟨g, h1, h2, h3⟩ := Hcells.out h0
                  exact ⟨g, fun _ => ⟨h1, h2⟩, h3⟩
              have Hgao := hid hgao; have Hrow0 := hid hrow0
              clear Hkz Hdig Hi Hz0 Hz1 Hz2 Hcells hgao hrow0
              have hn3 : n ≤ 3000 := by omega
              clear hLl
              go_wp2
              go_loopw [12, 13] (fun b kk wr => ∃ (k : Nat) (N : Int) (d : List Nat), k ≤ 17 ∧ kk = .int .i64 k ∧ b = .int .i64 N ∧ 0 ≤ N ∧ N + 1 ≤ 2 ^ k ∧ d.length = n ∧ (∀ x ∈ d, x < 10) ∧ BRow wr g (i64s d) ∧ Below w.heap.size w wr ∧ rounds (17 - k) N d = rounds 17 0 d0) (fun _ i _ => 17 - (intOf i).toNat)
              case atStart => exact ⟨0, 0, d0, by omega, rfl, rfl, by omega, by simp, Hdl.out, Hdd.out, Hrow0.out, hbel2, rfl⟩
              case round =>
                obtain ⟨kk, N, d, hkk, rfl, rfl, hN0, hN1, hdl, hdd, hrow, hbel3, hrr⟩ := hrel
                clear hbel2 Hrow0 Hdl Hdd
                have hpow : (2 : Int) ^ kk ≤ 131072 := by
                  have h := Nat.pow_le_pow_right (show 0 < 2 by decide) hkk
                  have h2 : ((2 ^ kk : Nat) : Int) ≤ ((2 ^ 17 : Nat) : Int) := by exact_mod_cast h
                  simpa using h2
                have hN2 : N < 131072 := by omega
                have Hrr := hid hrr; have Hdl := hid hdl; have Hdd := hid hdd; have HN1 := hid hN1; have Hrow := hid hrow
                clear hrr hdl hdd hN1 hpow hrow
                obtain ⟨wp, rfl⟩ : ∃ wp : World, wp = wr := ⟨_, rfl⟩
                by_cases hk17 : kk < 17
                · go_wp2
                  go_loopw [14, 15] (fun c i wr => ∃ (q : Nat) (i0 : Int), q ≤ n ∧ i0 = (q : Int) - 1 ∧ i = .int .i64 i0 ∧ c = .int .i64 ((dbl (d.drop q)).2 : Int) ∧ BRow wr g (i64s (d.take q ++ (dbl (d.drop q)).1)) ∧ Below w.heap.size w wr) (fun _ i _ => (intOf i + 1).toNat)
                  case atStart =>
                    have e1 : d.drop n = [] := List.drop_eq_nil_of_le (by rw [Hdl.out]; omega)
                    have e2 : d.take n = d := List.take_of_length_le (by rw [Hdl.out]; omega)
                    exact ⟨n, _, Nat.le_refl _, rfl, rfl, by rw [e1]; rfl, by rw [e1, e2]; simpa [dbl] using Hrow.out, hbel3⟩
                  case round =>
                    obtain ⟨q, i0, hq, hi0, rfl, rfl, hrow4, hbel4⟩ := hrel
                    clear Hrow hbel3
                    cases q with
                    | zero =>
                      obtain rfl : i0 = -1 := by omega
                      clear hi0
                      have hc := dbl_carry d Hdd.out
                      have e0 : d.drop 0 = d := by simp
                      rw [e0] at hrow4 ⊢
                      have Hrow4 := hid hrow4; clear hrow4 e0
                      go_wp2
                      go_roundw
                      case rel =>
                        refine ⟨kk + 1, 2 * N + (dbl d).2, (dbl d).1, by omega, by go_num, by go_num, by omega, ?_, by rw [dbl_len]; exact Hdl.out, dbl_digits d, by simpa using Hrow4.out, hbel4, ?_⟩
                        · have := HN1.out
                          rw [Int.pow_succ]; omega
                        · rw [← Hrr.out, show 17 - kk = (17 - (kk + 1)) + 1 from by omega]; rfl
                      case measure => simp [intOf]; omega
                    | succ j =>
                      obtain rfl : i0 = (j : Int) := by omega
                      clear hi0
                      have hjn : j < n := by omega
                      obtain ⟨rfl, hB⟩ := Hgao.out (by omega)
                      have hj : j < d.length := by rw [Hdl.out]; exact hjn
                      have hc := dbl_carry (d.drop (j + 1)) (fun x hx => Hdd.out x (List.mem_of_mem_drop hx))
                      have hx := Hdd.out d[j] (by simp)
                      have hst := dbl_step d j hj
                      obtain ⟨hcell, hfz⟩ := hrow4 j (.int .i64 (d[j] : Int)) (by
                        have hl1 : j < (d.take (j + 1)).length := by simp; omega
                        rw [i64s, List.getElem?_map, List.getElem?_append_left hl1, List.getElem?_take, if_pos (by omega), List.getElem?_eq_getElem hj]; rfl)
                      have hset := hrow4.set j (.int .i64 (((d[j] : Int) * 2 + ((dbl (d.drop (j + 1))).2 : Int)) % 10)) (by simp [i64s]; omega)
                      have Hset := hid hset; have Hst := hid hst; clear hset hst hrow4
                      generalize hgc : (dbl (d.drop (j + 1))).2 = c at *
                      generalize hgx : d[j] = x at *
                      have Hgc := hid hgc; have Hgx := hid hgx; clear hgc hgx
                      go_wp2
                      go_roundw
                      case rel =>
                        refine ⟨j, _, by omega, rfl, rfl, ?_, ?_, hbel4.setCell hB _⟩
                        · rw [Hst.out]; go_num
                        · have e : (i64s (d.take (j + 1) ++ (dbl (d.drop (j + 1))).fst)).set j (Value.int IntKind.i64 (((x : Int) * 2 + (c : Int)) % 10)) = i64s (d.take j ++ (dbl (d.drop j)).fst) := by
                            rw [Hst.out]
                            rw [List.take_succ_eq_append_getElem hj]
                            have hl1 : (List.map (fun (x : Nat) => Value.int .i64 (x : Int)) (d.take j)).length = j := by simp; omega
                            have e5 : (((2 * x + c) % 10 : Nat) : Int) = ((x : Int) * 2 + (c : Int)) % 10 := by omega
                            simp only [i64s, List.map_append, List.append_assoc, List.map_cons, e5]
                            rw [List.set_append_right _ _ (by omega), hl1, Nat.sub_self]
                            simp
                          rw [← e]; exact Hset.out
                      case measure => simp [intOf]
                · obtain rfl : kk = 17 := by omega
                  have hrd : (rounds 17 0 d0) = (N, d) := by rw [← Hrr.out]; rfl
                  have Hrd := hid hrd; clear hrd
                  go_wp2
                  go_ret2
                  refine ⟨?_, hbel3⟩
                  rw [Hgw.out, Hgd.out, Hrd.out]; rfl
end
section
theorem digN_take (l : List UInt8) : (l.take (digN l)).all isDig = true := by
 induction l with
 | nil => rfl
 | cons c r ih =>
  rw [digN_cons]
  split
  ·
   next h => simp [h] at ih ⊢; exact ih
  ·
   rfl
theorem digN_head (l : List UInt8) (c : UInt8) (r : List UInt8) (h : l.drop (digN l) = c :: r) : isDig c = false := by
 induction l with
 | nil => simp at h
 | cons x t ih =>
  rw [digN_cons] at h
  split at h
  ·
   next hx => rw [List.drop_succ_cons] at h; exact ih h
  ·
   next hx => simp at h; rw [← h.1]; simpa using hx
theorem digN_all (l : List UInt8) : l.all isDig = (l.drop (digN l)).isEmpty := by
 induction l with
 | nil => rfl
 | cons c r ih =>
  rw [digN_cons]
  cases h : isDig c with
  | true => simp [h] at ih ⊢; exact ih
  | false => simp [h]
theorem digN_full (l : List UInt8) (h : l.all isDig = true) : l.take (digN l) = l := by
 rw [digN_all, List.isEmpty_iff, List.drop_eq_nil_iff] at h
 exact List.take_of_length_le h
theorem dot_not (l : List UInt8) (h : l.all isDig = true) : 46 ∉ l := by
 intro hm
 have := List.all_eq_true.1 h 46 hm
 revert this; decide
theorem plain_mant (r : List UInt8) : (plainR r).2.2.2 = mantOk r ∧ (mantOk r = true → plainR r = ((cutDot r).1 ++ (cutDot r).2.1, (cutDot r).1.length, (cutDot r).2.2, true)) := by
 have ht := digN_take r
 have hsplit := List.take_append_drop (digN r) r
 cases hd : r.drop (digN r) with
 | nil =>
  have hall : r.all isDig = true := by rw [digN_all, hd]; rfl
  have hf := digN_full r hall
  have hc := cutDot_no r (dot_not r hall)
  have hp : plainR r = (r, digN r, false, !r.isEmpty) := by
   unfold plainR; rw [hd]; simp only [hf]
  have hlen : digN r = r.length := by
   have := congrArg List.length hf
   have := digN_le r
   simp at *; omega
  have hm : mantOk r = !r.isEmpty := by
   unfold mantOk
   rw [hc]
   simp only [hall]
   cases r <;> simp
  refine ⟨by rw [hp, hm], fun h => ?_⟩
  rw [hp, hc, ← hm, h, hlen]
  simp
 | cons c R2 =>
  rw [hd] at hsplit
  have hnd := digN_head r c R2 hd
  generalize hD : r.take (digN r) = D1 at *
  have hD1 : 46 ∉ D1 := dot_not D1 ht
  by_cases h46 : c = 46
  ·
   subst h46
   have hc : cutDot r = (D1, R2, true) := by rw [← hsplit]; exact cutDot_yes R2 D1 hD1
   have hp : plainR r = (D1 ++ R2.take (digN R2), digN r, true, (R2.drop (digN R2)).isEmpty && !(D1 ++ R2.take (digN R2)).isEmpty) := by
    unfold plainR; rw [hd]; simp only [hD, if_true]
   have hm : mantOk r = (R2.all isDig && decide (0 < D1.length + R2.length)) := by
    unfold mantOk; rw [hc]; simp only [ht, Bool.true_and]
   have hlen : digN r = D1.length := by
    rw [← hD, List.length_take]; have := digN_le r; omega
   cases hall : R2.all isDig with
   | true =>
    have hf := digN_full R2 hall
    have he : (R2.drop (digN R2)).isEmpty = true := by rw [← digN_all]; exact hall
    rw [hf, he] at hp
    rw [hall] at hm
    have e : (!(D1 ++ R2).isEmpty) = decide (0 < D1.length + R2.length) := by
     cases D1 <;> cases R2 <;> simp <;> omega
    rw [Bool.true_and] at hp hm
    rw [e, ← hm] at hp
    refine ⟨by rw [hp], fun h => ?_⟩
    rw [hp, hc, h, hlen]
   | false =>
    have he : (R2.drop (digN R2)).isEmpty = false := by rw [← digN_all]; exact hall
    rw [hall, Bool.false_and] at hm
    rw [he, Bool.false_and] at hp
    exact ⟨by rw [hp, hm], fun h => by rw [hm] at h; cases h⟩
  ·
   have hp : plainR r = (D1, digN r, false, false) := by
    unfold plainR; rw [hd]; simp only [hD, if_neg h46]
   have hm : mantOk r = false := by
    unfold mantOk
    by_cases h2 : 46 ∈ r
    ·
     obtain ⟨A, B, hr, hA⟩ := split_at 46 r h2
     have hcm : c ∈ A := by
      have h3 : D1 ++ c :: R2 = A ++ 46 :: B := hsplit.trans hr
      rcases List.append_eq_append_iff.1 h3 with ⟨xs, h4, h5⟩ | ⟨xs, h4, h5⟩
      ·
       cases xs with
       | nil => simp at h5; exact absurd h5.1 h46
       | cons x xs =>
        simp at h5
        rw [h4, h5.1]; simp
      ·
       cases xs with
       | nil => simp at h5; exact absurd h5.1.symm h46
       | cons x xs =>
        simp at h5
        exfalso; apply hD1; rw [h4, h5.1]; simp
     have hall : A.all isDig = false := by
      rw [List.all_eq_false]
      exact ⟨c, hcm, by simp [hnd]⟩
     rw [hr, cutDot_yes B A hA]; simp only [hall, Bool.false_and]
    ·
     rw [cutDot_no r h2]
     have hall : r.all isDig = false := by
      rw [List.all_eq_false]
      exact ⟨c, by rw [← hsplit]; simp, by simp [hnd]⟩
     simp only [hall, Bool.false_and]
   exact ⟨by rw [hp, hm], fun h => by rw [hm] at h; cases h⟩
end
section
theorem dec_value (minus : Bool) (whole rest : List UInt8) (w : World) (h2 : rest.length ≤ 3000) (h3 : ∀ c ∈ whole, isDig c = true) (h4 : ∀ c ∈ rest, isDig c = true) :
    Calls Tryz.prog 160 #[.bool minus, .string (bs whole), .string (bs rest)] w fun e w' => e = .returned (.tuple #[.int .i64 (valueL minus whole rest).1, .bool (valueL minus whole rest).2]) ∧ Below w.heap.size w w' := by
  by_cases hb : 5 < (whole.dropWhile (· == 48)).length
  · have hv : valueL minus whole rest = (0, false) := by unfold valueL rawL; rw [if_pos hb]
    rw [hv]
    exact dec_value_big minus whole rest w hb
  · exact dec_value_fit minus whole rest w (by omega) h2 h3 h4
/-- the number of a text, or false -/
def parseL (l : List UInt8) : Int × Bool :=
 if mantOk (signedL l).2 then
  (if (valueL (signedL l).1 (cutDot (signedL l).2).1 (cutDot (signedL l).2).2.1).2 then ((valueL (signedL l).1 (cutDot (signedL l).2).1 (cutDot (signedL l).2).2.1).1, true) else (0, false))
 else (0, false)
theorem signedL_len (l : List UInt8) : (signedL l).2.length ≤ l.length := by
 cases l with
 | nil => simp [signedL]
 | cons c r =>
  simp only [signedL]
  split
  ·
   simp
  ·
   split <;> simp
theorem mantOk_digits (l : List UInt8) (h : mantOk l = true) : (∀ c ∈ (cutDot l).1, isDig c = true) ∧ (∀ c ∈ (cutDot l).2.1, isDig c = true) := by
 simp only [mantOk, Bool.and_eq_true, List.all_eq_true] at h
 exact ⟨h.1.1, h.1.2⟩
theorem dec_Parse_long (l : List UInt8) (w : World) (hl : 64 < l.length) :
  Calls Tryz.prog 114 #[.string (bs l)] w fun e w' => e = .returned (.tuple #[.int .i64 0, .bool false]) ∧ w = w' := by
 have hs := bs_size l
 go_enter func114, ntmps114
 go_wp2_with fail
 go_ret2
 exact ⟨rfl, rfl⟩
set_option maxHeartbeats 1000000 in
theorem dec_Parse_short (l : List UInt8) (w : World) (hl : l.length ≤ 64) :
  Calls Tryz.prog 114 #[.string (bs l)] w fun e w' => e = .returned (.tuple #[.int .i64 (parseL l).1, .bool (parseL l).2]) ∧ Below w.heap.size w w' := by
 have hs := bs_size l
 have hS := fun w => dec_signed l w (by omega)
 have hlen := signedL_len l
 have hP : parseL l = (if mantOk (signedL l).2 then (if (valueL (signedL l).1 (cutDot (signedL l).2).1 (cutDot (signedL l).2).2.1).2 then ((valueL (signedL l).1 (cutDot (signedL l).2).1 (cutDot (signedL l).2).2.1).1, true) else (0, false)) else (0, false)) := rfl
 generalize signedL l = sr at *
 obtain ⟨m, r⟩ := sr
 simp only at hP hS hlen
 have hM := fun w => dec_mantissa r w (by omega)
 have hcl := cutDot_len r
 have hok := mantOk_digits r
 generalize mantOk r = ok at *
 generalize cutDot r = p at *
 obtain ⟨A, B, f⟩ := p
 simp only at hP hM hok hcl
 cases ok with
 | false =>
  rw [if_neg (by decide)] at hP
  have HP := hid hP; clear hP hok
  go_enter func114, ntmps114
  go_wp2_with first | (go_at_call 158; go_must (refine (hS _).mono ?_); rintro e w1 ⟨rfl, hb1⟩) | (go_at_call 159; go_must (refine (hM _).mono ?_); rintro e w2 ⟨rfl, hb2⟩)
  go_ret2
  exact ⟨by rw [HP.out]; rfl, btr hb1 hb2⟩
 | true =>
  rw [if_pos rfl] at hP
  obtain ⟨hA, hB⟩ := hok rfl
  have hV := fun w => dec_value m A B w (by omega) hA hB
  have HA := hid hA; have HB := hid hB; clear hok hA hB
  generalize valueL m A B = v at *
  obtain ⟨n, fit⟩ := v
  simp only at hP hV
  have HP := hid hP; clear hP
  cases fit
  all_goals
   go_enter func114, ntmps114
   go_wp2_with first | (go_at_call 158; go_must (refine (hS _).mono ?_); rintro e w1 ⟨rfl, hb1⟩) | (go_at_call 159; go_must (refine (hM _).mono ?_); rintro e w2 ⟨rfl, hb2⟩) | (go_at_call 160; go_must (refine (hV _).mono ?_); rintro e w3 ⟨rfl, hb3⟩)
   go_ret2
   exact ⟨by rw [HP.out]; rfl, btr (btr hb1 hb2) hb3⟩
set_option maxHeartbeats 1000000 in
theorem ref_signed (n : Int) (m : Bool) (w : World) (h : -1000000000000 ≤ n) (h' : n ≤ 1000000000000) :
  Calls Tryz.prog 175 #[.int .i64 n, .bool m] w fun e w' => e = .returned (.tuple #[.int .i64 (if fitsB (if m then -n else n) then (if m then -n else n) else 0), .bool (fitsB (if m then -n else n))]) ∧ w = w' := by
 cases m with
 | true =>
  have hF := fun w => ref_Fits (-n) w
  simp only [if_true]
  cases hf : fitsB (-n)
  all_goals
   rw [hf] at hF
   clear hf
   go_enter func175, ntmps175
   go_wp2_with (go_at_call 62; go_must (refine (hF _).mono ?_); rintro e w1 ⟨rfl, rfl⟩)
   go_ret2
   exact ⟨rfl, rfl⟩
 | false =>
  have hF := fun w => ref_Fits n w
  simp only [Bool.false_eq_true, if_false]
  cases hf : fitsB n
  all_goals
   rw [hf] at hF
   clear hf
   go_enter func175, ntmps175
   go_wp2_with (go_at_call 62; go_must (refine (hF _).mono ?_); rintro e w1 ⟨rfl, rfl⟩)
   go_ret2
   exact ⟨rfl, rfl⟩
theorem wholeD_digits (digits : List UInt8) (p : Int) (h : ∀ c ∈ digits, isDig c = true) : ∀ c ∈ wholeD digits p, isDig c = true := by
 intro c hc
 rw [wholeD, List.mem_append] at hc
 rcases hc with hc | hc
 ·
  exact h c (List.mem_of_mem_take hc)
 ·
  rw [List.mem_replicate] at hc; rw [hc.2]; rfl
theorem restD_digits (digits : List UInt8) (p : Int) (h : ∀ c ∈ digits, isDig c = true) : ∀ c ∈ restD digits p, isDig c = true := by
 intro c hc
 rw [restD, List.mem_append] at hc
 rcases hc with hc | hc
 ·
  rw [List.mem_replicate] at hc; rw [hc.2]; rfl
 ·
  exact h c (List.mem_of_mem_drop hc)
theorem ref_scaled (digits : List UInt8) (p : Int) (w : World) (hl : digits.length ≤ 1000) (hp0 : -2000 ≤ p) (hp : p ≤ 2000) (hdig : ∀ c ∈ digits, isDig c = true) :
    Calls Tryz.prog 174 #[.string (bs digits), .int .i64 p] w fun e w' => e = .returned (.tuple #[.int .i64 ((rawL (wholeD digits p) (restD digits p)).getD 0), .bool (rawL (wholeD digits p) (restD digits p)).isSome]) ∧ Below w.heap.size w w' := by
  by_cases hbig : 99999 < natOf (wholeD digits p)
  · rw [rawL_big _ _ (wholeD_digits digits p hdig) hbig]
    exact (ref_scaled_big digits p w hp hdig hbig).mono fun e w' ⟨h1, h2⟩ => ⟨h1, h2 ▸ Below.refl _ _⟩
  · rw [rawL_fit _ _ (wholeD_digits digits p hdig) (restD_digits digits p hdig) (by omega) _ _ rfl]
    exact ref_scaled_fit digits p w hl hp0 hp hdig (by omega)
theorem rounds_bound (k : Nat) : ∀ (n : Int) (d : List Nat), (∀ x ∈ d, x < 10) → 0 ≤ n → 0 ≤ (rounds k n d).1 ∧ (rounds k n d).1 + 1 ≤ (n + 1) * 2 ^ k := by
 induction k with
 | zero => intro n d _ h; simp [rounds]; omega
 | succ k ih =>
  intro n d hd h
  have hc := dbl_carry d hd
  have h1 := ih (2 * n + (dbl d).2) (dbl d).1 (dbl_digits d) (by omega)
  rw [rounds, Int.pow_succ]
  refine ⟨h1.1, Int.le_trans h1.2 ?_⟩
  have h2 : (2 * n + ((dbl d).2 : Int) + 1) * 2 ^ k ≤ (2 * (n + 1)) * 2 ^ k := Int.mul_le_mul_of_nonneg_right (by omega) (by exact_mod_cast Nat.zero_le _)
  rw [Int.mul_comm (2 ^ k) 2, ← Int.mul_assoc, Int.mul_comm (n + 1) 2]
  exact h2
theorem rawL_bound (W R : List UInt8) (h : ∀ c ∈ W, isDig c = true) (hR : ∀ c ∈ R, isDig c = true) (n : Int) (hn : rawL W R = some n) : 0 ≤ n ∧ n ≤ 6553600000 := by
 unfold rawL at hn
 split at hn
 ·
  cases hn
 ·
  next hl =>
  have ht : ∀ c ∈ W.dropWhile (· == 48), isDig c = true := fun c hc => h c (List.dropWhile_sublist _ |>.subset hc)
  have h1 := natOf_lt _ ht
  have h2 : 10 ^ (W.dropWhile (· == 48)).length ≤ 10 ^ 5 := Nat.pow_le_pow_right (by decide) (by omega)
  have h3 := rounds_bound 16 (natOf (W.dropWhile (· == 48))) (digitsOf R) (digitsOf_lt R hR) (by omega)
  have h4 := dbl_carry _ (rounds_digits 16 (natOf (W.dropWhile (· == 48))) _ (digitsOf_lt R hR))
  generalize natOf (W.dropWhile (· == 48)) = N at *
  generalize rounds 16 (N : Int) (digitsOf R) = q at *
  have e : (2 : Int) ^ 16 = 65536 := by decide
  rw [e] at h3
  have hn' : q.1 + ((dbl q.2).2 : Int) = n := by simpa using hn
  omega
/-- the sign, and does it fit -/
def signL2 (m : Bool) (o : Option Int) : Int × Bool :=
 match o with
 | none => (0, false)
 | some n => if fitsB (if m then -n else n) then (if m then -n else n, true) else (0, false)
theorem parseL_eq (l : List UInt8) : parseL l = if mantOk (signedL l).2 then signL2 (signedL l).1 (rawL (cutDot (signedL l).2).1 (cutDot (signedL l).2).2.1) else (0, false) := by
 unfold parseL
 split
 ·
  unfold valueL signL2
  cases rawL (cutDot (signedL l).2).1 (cutDot (signedL l).2).2.1 with
  | none => rfl
  | some n =>
   simp only
 ·
  rfl
theorem ref_Parse_long (l : List UInt8) (w : World) (hl : 64 < l.length) :
  Calls Tryz.prog 117 #[.string (bs l)] w fun e w' => e = .returned (.tuple #[.int .i64 0, .bool false]) ∧ w = w' := by
 have hs := bs_size l
 go_enter func117, ntmps117
 go_wp2_with fail
 go_ret2
 exact ⟨rfl, rfl⟩
theorem wholeD_at_point (A B : List UInt8) : wholeD (A ++ B) (A.length : Int) = A := by
 unfold wholeD
 have e : ((A.length : Int)).toNat = A.length := by omega
 rw [e]
 simp
theorem restD_at_point (A B : List UInt8) : restD (A ++ B) (A.length : Int) = B := by
 unfold restD
 have e : ((A.length : Int)).toNat = A.length := by omega
 have e2 : (-(A.length : Int)).toNat = 0 := by omega
 rw [e, e2]
 simp
set_option maxHeartbeats 1000000 in
theorem ref_Parse_short (l : List UInt8) (w : World) (hl : l.length ≤ 64) :
  Calls Tryz.prog 117 #[.string (bs l)] w fun e w' => e = .returned (.tuple #[.int .i64 (parseL l).1, .bool (parseL l).2]) ∧ Below w.heap.size w w' := by
 have hs := bs_size l
 have hS := fun w => ref_plain l w (by omega)
 have hlen := signedL_len l
 have hP := parseL_eq l
 generalize signedL l = sr at *
 obtain ⟨m, r⟩ := sr
 simp only at hP hS hlen
 have hcl := cutDot_len r
 have hok := mantOk_digits r
 obtain ⟨hp1, hp2⟩ := plain_mant r
 generalize mantOk r = ok at *
 generalize cutDot r = p at *
 obtain ⟨A, B, f⟩ := p
 generalize plainR r = q at *
 obtain ⟨D, a, g, o⟩ := q
 simp only at hP hok hcl hp1 hp2 hS
 subst hp1
 cases o with
 | false =>
  rw [if_neg (by decide)] at hP
  have HP := hid hP; clear hP hok hp2
  go_enter func117, ntmps117
  go_wp2_with (go_at_call 173; go_must (refine (hS _).mono ?_); rintro e w1 ⟨rfl, hb1⟩)
  go_ret2
  exact ⟨by rw [HP.out]; rfl, hb1⟩
 | true =>
  rw [if_pos rfl] at hP
  obtain ⟨hA, hB⟩ := hok rfl
  have hq := hp2 rfl
  simp only [Prod.mk.injEq] at hq
  obtain ⟨rfl, rfl, rfl, -⟩ := hq
  have hAB : ∀ c ∈ A ++ B, isDig c = true := by
   intro c hc
   rcases List.mem_append.1 hc with h | h
   ·
    exact hA c h
   ·
    exact hB c h
  have hSc := fun w => ref_scaled (A ++ B) (A.length : Int) w (by simp; omega) (by omega) (by omega) hAB
  rw [wholeD_at_point, restD_at_point] at hSc
  have hbd := rawL_bound A B hA hB
  have HA := hid hA; have HB := hid hB; have HAB := hid hAB; clear hok hA hB hAB hp2
  generalize rawL A B = v at *
  cases v with
  | none =>
   have HP := hid hP; clear hP hbd
   simp only [Option.getD_none, Option.isSome_none] at hSc
   go_enter func117, ntmps117
   go_wp2_with first | (go_at_call 173; go_must (refine (hS _).mono ?_); rintro e w1 ⟨rfl, hb1⟩) | (go_at_call 174; go_must (refine (hSc _).mono ?_); rintro e w2 ⟨rfl, hb2⟩)
   go_ret2
   exact ⟨by rw [HP.out]; rfl, btr hb1 hb2⟩
  | some n =>
   simp only [Option.getD_some, Option.isSome_some] at hSc
   obtain ⟨hn0, hn1⟩ := hbd n rfl
   clear hbd
   have hSg := fun w => ref_signed n m w (by omega) (by omega)
   have hP2 : parseL l = ((if fitsB (if m then -n else n) then (if m then -n else n) else 0), fitsB (if m then -n else n)) := by
    rw [hP]; unfold signL2; simp only
    cases fitsB (if m then -n else n) <;> rfl
   have HP := hid hP2; clear hP hP2
   generalize fitsB (if m then -n else n) = ft at *
   generalize (if ft then (if m then -n else n) else 0) = res at *
   go_enter func117, ntmps117
   go_wp2_with first | (go_at_call 173; go_must (refine (hS _).mono ?_); rintro e w1 ⟨rfl, hb1⟩) | (go_at_call 174; go_must (refine (hSc _).mono ?_); rintro e w2 ⟨rfl, hb2⟩) | (go_at_call 175; go_must (refine (hSg _).mono ?_); rintro e w3 ⟨rfl, rfl⟩)
   go_ret2
   exact ⟨by rw [HP.out]; rfl, btr hb1 hb2⟩
end
section
/-- a digit of any base; 99: none -/
def hexN (c : UInt8) : Nat :=
 if 48 ≤ c.toNat ∧ c.toNat ≤ 57 then c.toNat - 48 else if 97 ≤ c.toNat ∧ c.toNat ≤ 122 then c.toNat - 87 else if 65 ≤ c.toNat ∧ c.toNat ≤ 90 then c.toNat - 55 else 99
theorem hexN_le (c : UInt8) : hexN c ≤ 99 := by unfold hexN; split <;> (try split) <;> (try split) <;> omega
theorem ret_int {k : IntKind} {a b : Int} (h : a = b) : Ending.returned (.int k a) = .returned (.int k b) := by rw [h]
set_option maxHeartbeats 1000000 in
theorem dec_digit (c : UInt8) (w : World) :
    Calls Tryz.prog 212 #[.int .u8 (c.toNat : Int)] w fun e w' => e = .returned (.int .i64 (hexN c)) ∧ w = w' := by
  have hc : c.toNat < 256 := UInt8.toNat_lt c
  have hh : hexN c = if 48 ≤ c.toNat ∧ c.toNat ≤ 57 then c.toNat - 48 else if 97 ≤ c.toNat ∧ c.toNat ≤ 122 then c.toNat - 87 else if 65 ≤ c.toNat ∧ c.toNat ≤ 90 then c.toNat - 55 else 99 := rfl
  have Hh := hid hh; clear hh
  generalize c.toNat = n at *
  by_cases h1 : 48 ≤ n ∧ n ≤ 57
  · obtain ⟨h1a, h1b⟩ := h1
    go_enter func212, ntmps212
    go_wp2
    go_ret
    exact ⟨ret_int (by rw [Hh.out, if_pos ⟨h1a, h1b⟩]; omega), rfl⟩
  · have h1' : n < 48 ∨ 57 < n := by omega
    by_cases h2 : 97 ≤ n ∧ n ≤ 122
    · obtain ⟨h2a, h2b⟩ := h2
      have H1 := hid h1; clear h1 h1'
      go_enter func212, ntmps212
      go_wp2
      go_ret
      exact ⟨ret_int (by rw [Hh.out, if_neg H1.out, if_pos ⟨h2a, h2b⟩]; omega), rfl⟩
    · have h2' : n < 97 ∨ 122 < n := by omega
      by_cases h3 : 65 ≤ n ∧ n ≤ 90
      · obtain ⟨h3a, h3b⟩ := h3
        have H1 := hid h1; have H2 := hid h2; clear h1 h1' h2 h2'
        go_enter func212, ntmps212
        go_wp2
        go_ret
        exact ⟨ret_int (by rw [Hh.out, if_neg H1.out, if_neg H2.out, if_pos ⟨h3a, h3b⟩]; omega), rfl⟩
      · have h3' : n < 65 ∨ 90 < n := by omega
        have H1 := hid h1; have H2 := hid h2; have H3 := hid h3; clear h1 h2 h3
        go_enter func212, ntmps212
        go_wp2
        all_goals
          go_ret
          exact ⟨ret_int (by rw [Hh.out, if_neg H1.out, if_neg H2.out, if_neg H3.out]; rfl), rfl⟩
set_option maxHeartbeats 1000000 in
theorem ref_Hex (c : UInt8) (w : World) :
    Calls Tryz.prog 153 #[.int .u8 (c.toNat : Int)] w fun e w' => e = .returned (.int .i64 (hexN c)) ∧ w = w' := by
  have hc : c.toNat < 256 := UInt8.toNat_lt c
  have hh : hexN c = if 48 ≤ c.toNat ∧ c.toNat ≤ 57 then c.toNat - 48 else if 97 ≤ c.toNat ∧ c.toNat ≤ 122 then c.toNat - 87 else if 65 ≤ c.toNat ∧ c.toNat ≤ 90 then c.toNat - 55 else 99 := rfl
  have Hh := hid hh; clear hh
  generalize c.toNat = n at *
  by_cases h1 : 48 ≤ n ∧ n ≤ 57
  · obtain ⟨h1a, h1b⟩ := h1
    go_enter func153, ntmps153
    go_wp2
    go_ret
    exact ⟨ret_int (by rw [Hh.out, if_pos ⟨h1a, h1b⟩]; omega), rfl⟩
  · have h1' : n < 48 ∨ 57 < n := by omega
    by_cases h2 : 97 ≤ n ∧ n ≤ 122
    · obtain ⟨h2a, h2b⟩ := h2
      have H1 := hid h1; clear h1 h1'
      go_enter func153, ntmps153
      go_wp2
      go_ret
      exact ⟨ret_int (by rw [Hh.out, if_neg H1.out, if_pos ⟨h2a, h2b⟩]; omega), rfl⟩
    · have h2' : n < 97 ∨ 122 < n := by omega
      by_cases h3 : 65 ≤ n ∧ n ≤ 90
      · obtain ⟨h3a, h3b⟩ := h3
        have H1 := hid h1; have H2 := hid h2; clear h1 h1' h2 h2'
        go_enter func153, ntmps153
        go_wp2
        go_ret
        exact ⟨ret_int (by rw [Hh.out, if_neg H1.out, if_neg H2.out, if_pos ⟨h3a, h3b⟩]; omega), rfl⟩
      · have h3' : n < 65 ∨ 90 < n := by omega
        have H1 := hid h1; have H2 := hid h2; have H3 := hid h3; clear h1 h2 h3
        go_enter func153, ntmps153
        go_wp2
        all_goals
          go_ret
          exact ⟨ret_int (by rw [Hh.out, if_neg H1.out, if_neg H2.out, if_neg H3.out]; rfl), rfl⟩
/-- digits, held at a bound -/
def satOf (l : List UInt8) : Nat := l.foldl (fun n c => min (10 * n + (c.toNat - 48)) 1099511627776) 0
/-- a number of 32 bits, or false -/
def wholeT (l : List UInt8) : Int × Bool :=
 if (signedL l).2.isEmpty || !(signedL l).2.all isDig then (0, false)
 else let n : Int := if (signedL l).1 then -(satOf (signedL l).2 : Int) else satOf (signedL l).2
  (n, decide (-2147483648 ≤ n) && decide (n ≤ 2147483647))
/-- the number behind an e -/
def powerL (l : List UInt8) : Int × Bool :=
 if (signedL l).2.isEmpty || decide (3 < (signedL l).2.length) || !(signedL l).2.all isDig then (0, false)
 else (if (signedL l).1 then -(natOf (signedL l).2 : Int) else natOf (signedL l).2, true)
theorem satOf_snoc (l : List UInt8) (c : UInt8) : satOf (l ++ [c]) = min (10 * satOf l + (c.toNat - 48)) 1099511627776 := by simp [satOf]
theorem satOf_take (l : List UInt8) (k : Nat) (h : k < l.length) : satOf (l.take (k + 1)) = min (10 * satOf (l.take k) + (l[k].toNat - 48)) 1099511627776 := by
 rw [List.take_succ_eq_append_getElem h, satOf_snoc]
theorem satOf_from (l : List UInt8) : ∀ n, n ≤ 1099511627776 → l.foldl (fun n c => min (10 * n + (c.toNat - 48)) 1099511627776) n = min (l.foldl (fun n c => 10 * n + (c.toNat - 48)) n) 1099511627776 := by
 induction l with
 | nil => intro n h; simp; omega
 | cons c r ih =>
  intro n h
  rw [List.foldl_cons, List.foldl_cons, ih _ (by omega)]
  by_cases hb : 10 * n + (c.toNat - 48) ≤ 1099511627776
  ·
   rw [Nat.min_eq_left hb]
  ·
   have h1 := natOf_ge r (min (10 * n + (c.toNat - 48)) 1099511627776)
   have h2 := natOf_ge r (10 * n + (c.toNat - 48))
   have h3 : 1 ≤ 10 ^ r.length := Nat.one_le_pow _ _ (by decide)
   have e : min (10 * n + (c.toNat - 48)) 1099511627776 = 1099511627776 := by omega
   rw [e] at h1 ⊢
   have h4 : 1099511627776 * 1 ≤ 1099511627776 * 10 ^ r.length := Nat.mul_le_mul_left _ h3
   have h5 : 1099511627776 * 10 ^ r.length ≤ (10 * n + (c.toNat - 48)) * 10 ^ r.length := Nat.mul_le_mul_right _ (by omega)
   omega
theorem satOf_eq (l : List UInt8) : satOf l = min (natOf l) 1099511627776 := satOf_from l 0 (by omega)
theorem ret_ib2 {a b : Int} {c d : Bool} (h : a = b) (h' : c = d) : Ending.returned (.tuple #[.int .i64 a, .bool c]) = Ending.returned (.tuple #[.int .i64 b, .bool d]) := by rw [h, h']
set_option maxRecDepth 100000 in
set_option maxHeartbeats 2000000 in
theorem dec_whole (l : List UInt8) (w : World) (hl : l.length ≤ 1000) :
    Calls Tryz.prog 162 #[.string (bs l)] w fun e w' => e = .returned (.tuple #[.int .i64 (wholeT l).1, .bool (wholeT l).2]) ∧ Below w.heap.size w w' := by
  have hS := fun w => dec_signed l w (by omega)
  have hlen := signedL_len l
  have hW : wholeT l = (if (signedL l).2.isEmpty || !(signedL l).2.all isDig then (0, false) else let n : Int := if (signedL l).1 then -(satOf (signedL l).2 : Int) else satOf (signedL l).2
    (n, decide (-2147483648 ≤ n) && decide (n ≤ 2147483647))) := rfl
  generalize signedL l = sr at *
  obtain ⟨m, r⟩ := sr
  simp only at hW hS hlen
  have hs := bs_size r
  have hT := bs_toList
  cases r with
  | nil =>
    have HW := hid hW; clear hW
    go_enter func162, ntmps162
    go_wp2_with (go_at_call 158; go_must (refine (hS _).mono ?_); rintro e w1 ⟨rfl, hb1⟩)
    go_ret2
    exact ⟨by rw [HW.out]; rfl, hb1⟩
  | cons c0 r0 =>
    have hne := bs_ne c0 r0
    have hI : (c0 :: r0).isEmpty = false := rfl
    rw [hI, Bool.false_or] at hW
    clear hI hT
    have hPl := fun w => dec_plain (c0 :: r0) w (by omega)
    generalize c0 :: r0 = r at *
    cases hall : r.all isDig with
    | false =>
      rw [hall, if_pos (by decide)] at hW
      rw [hall] at hPl
      have HW := hid hW; clear hW hall
      go_enter func162, ntmps162
      go_wp2_with first | (go_at_call 158; go_must (refine (hS _).mono ?_); rintro e w1 ⟨rfl, hb1⟩) | (go_at_call 209; go_must (refine (hPl _).mono ?_); rintro e w2 ⟨rfl, hb2⟩)
      go_ret2
      exact ⟨by rw [HW.out]; rfl, btr hb1 hb2⟩
    | true =>
      rw [hall, if_neg (by decide)] at hW
      rw [hall] at hPl
      have hdig : ∀ c ∈ r, isDig c = true := List.all_eq_true.1 hall
      have HW := hid hW; have Hdig := hid hdig; clear hW hdig hall
      go_enter func162, ntmps162
      go_wp2_with first | (go_at_call 158; go_must (refine (hS _).mono ?_); rintro e w1 ⟨rfl, hb1⟩) | (go_at_call 209; go_must (refine (hPl _).mono ?_); rintro e w2 ⟨rfl, hb2⟩) | (refine wpList_conv_bytes rfl _ _ _ _ rfl underlying9 underlying22 underlying5 _ rfl ?_; intro cap w3 hcap hrow hg hsz)
      have hb3 := btr (btr hb1 hb2) (below_of_grown hg)
      have Hrow := hid hrow; clear hrow hg hb1 hb2 hS hPl
      go_loop [5, 23] (fun n i => ∃ k : Nat, k ≤ r.length ∧ i = .int .i64 k ∧ n = .int .i64 (satOf (r.take k) : Int)) (fun _ i => r.length - (intOf i).toNat)
      case atStart => exact ⟨0, Nat.zero_le _, rfl, rfl⟩
      case round =>
        obtain ⟨k, hk, rfl, rfl⟩ := hrel
        have hle : satOf (r.take k) ≤ 1099511627776 := by rw [satOf_eq]; omega
        by_cases hkl : k < r.length
        · have hstep := satOf_take r k hkl
          have hd := isDig_bounds (Hdig.out r[k] (by simp))
          have hc := (Hrow.out k _ (byteVals_at r k hkl)).1
          have Hstep := hid hstep; clear hstep
          generalize satOf (r.take k) = N at *
          generalize r[k].toNat = c at *
          go_wp2
          go_round
          case rel => exact ⟨k + 1, by omega, by go_num, by rw [Hstep.out]; go_num⟩
          case measure => simp [intOf]; omega
        · obtain rfl : k = r.length := by omega
          rw [List.take_length] at hle ⊢
          clear Hrow
          generalize satOf r = N at *
          cases m
          all_goals
            go_wp2
            all_goals
              go_ret2
              refine ⟨?_, hb3⟩
              rw [HW.out]
              refine ret_ib2 rfl ?_
              rw [Bool.eq_iff_iff]
              simp
              try omega
set_option maxRecDepth 100000 in
set_option maxHeartbeats 2000000 in
theorem dec_power (l : List UInt8) (w : World) (hl : l.length ≤ 1000) :
    Calls Tryz.prog 164 #[.string (bs l)] w fun e w' => e = .returned (.tuple #[.int .i64 (powerL l).1, .bool (powerL l).2]) ∧ Below w.heap.size w w' := by
  have hS := fun w => dec_signed l w (by omega)
  have hlen := signedL_len l
  have hW : powerL l = (if (signedL l).2.isEmpty || decide (3 < (signedL l).2.length) || !(signedL l).2.all isDig then (0, false) else (if (signedL l).1 then -(natOf (signedL l).2 : Int) else natOf (signedL l).2, true)) := rfl
  generalize signedL l = sr at *
  obtain ⟨m, r⟩ := sr
  simp only at hW hS hlen
  have hs := bs_size r
  have hT := bs_toList
  cases r with
  | nil =>
    have HW := hid hW; clear hW
    go_enter func164, ntmps164
    go_wp2_with (go_at_call 158; go_must (refine (hS _).mono ?_); rintro e w1 ⟨rfl, hb1⟩)
    go_ret2
    exact ⟨by rw [HW.out]; rfl, hb1⟩
  | cons c0 r0 =>
    have hne := bs_ne c0 r0
    have hI : (c0 :: r0).isEmpty = false := rfl
    rw [hI, Bool.false_or] at hW
    clear hI hT
    have hPl := fun w => dec_plain (c0 :: r0) w (by omega)
    generalize c0 :: r0 = r at *
    by_cases h3 : 3 < r.length
    · rw [decide_eq_true h3, Bool.true_or, if_pos rfl] at hW
      have HW := hid hW; clear hW
      go_enter func164, ntmps164
      go_wp2_with first | (go_at_call 158; go_must (refine (hS _).mono ?_); rintro e w1 ⟨rfl, hb1⟩) | (go_at_call 209; go_must (refine (hPl _).mono ?_); rintro e w2 ⟨rfl, hb2⟩)
      go_ret2
      exact ⟨by rw [HW.out]; rfl, hb1⟩
    · rw [decide_eq_false h3, Bool.false_or] at hW
      cases hall : r.all isDig with
      | false =>
        rw [hall, if_pos (by decide)] at hW
        rw [hall] at hPl
        have HW := hid hW; clear hW hall
        go_enter func164, ntmps164
        go_wp2_with first | (go_at_call 158; go_must (refine (hS _).mono ?_); rintro e w1 ⟨rfl, hb1⟩) | (go_at_call 209; go_must (refine (hPl _).mono ?_); rintro e w2 ⟨rfl, hb2⟩)
        go_ret2
        exact ⟨by rw [HW.out]; rfl, btr hb1 hb2⟩
      | true =>
        rw [hall, if_neg (by decide)] at hW
        rw [hall] at hPl
        have hdig : ∀ c ∈ r, isDig c = true := List.all_eq_true.1 hall
        have HW := hid hW; have Hdig := hid hdig; clear hW hdig hall
        go_enter func164, ntmps164
        go_wp2_with first | (go_at_call 158; go_must (refine (hS _).mono ?_); rintro e w1 ⟨rfl, hb1⟩) | (go_at_call 209; go_must (refine (hPl _).mono ?_); rintro e w2 ⟨rfl, hb2⟩) | (refine wpList_conv_bytes rfl _ _ _ _ rfl underlying9 underlying22 underlying5 _ rfl ?_; intro cap w3 hcap hrow hg hsz)
        have hb3 := btr (btr hb1 hb2) (below_of_grown hg)
        have Hrow := hid hrow; clear hrow hg hb1 hb2 hS hPl
        have hnat : ∀ k, natOf (r.take k) < 1000 := by
          intro k
          have h1 := natOf_take_le r k
          have h2 := natOf_lt r Hdig.out
          have h4 : 10 ^ r.length ≤ 10 ^ 3 := Nat.pow_le_pow_right (by decide) (by omega)
          omega
        have Hnat := hid hnat; clear hnat
        go_loop [5, 28] (fun n i => ∃ k : Nat, k ≤ r.length ∧ i = .int .i64 k ∧ n = .int .i64 (natOf (r.take k) : Int)) (fun _ i => r.length - (intOf i).toNat)
        case atStart => exact ⟨0, Nat.zero_le _, rfl, rfl⟩
        case round =>
          obtain ⟨k, hk, rfl, rfl⟩ := hrel
          have hle := Hnat.out k
          by_cases hkl : k < r.length
          · have hstep := natOf_take r k hkl
            have hd := isDig_bounds (Hdig.out r[k] (by simp))
            have hc := (Hrow.out k _ (byteVals_at r k hkl)).1
            have Hstep := hid hstep; clear hstep
            generalize natOf (r.take k) = N at *
            generalize r[k].toNat = c at *
            go_wp2
            go_round
            case rel => exact ⟨k + 1, by omega, by go_num, by rw [Hstep.out]; go_num⟩
            case measure => simp [intOf]; omega
          · obtain rfl : k = r.length := by omega
            rw [List.take_length] at hle ⊢
            clear Hrow Hnat
            generalize natOf r = N at *
            cases m
            all_goals
              go_wp2
              go_ret2
              exact ⟨by rw [HW.out]; rfl, hb3⟩
theorem repeat_one (c : UInt8) (k : Nat) : Lib.repeatL [c] k = List.replicate k c := by
 induction k with
 | zero => rfl
 | succ k ih => rw [Lib.repeatL, ih]; rfl
theorem zeros (k : Nat) (w : World) (hk : k ≤ 100000) :
  Calls Tryz.prog 216 #[.string ⟨#[48]⟩, .int .i64 k] w fun e w' => e = .returned (.string (bs (List.replicate k 48))) ∧ Below w.heap.size w w' := by
 rw [← repeat_one]
 exact Tryz.strings_Repeat ⟨#[48]⟩ k w (by omega) (by show 1 * k ≤ _; omega)
theorem ret_ss {a b a' b' : ByteArray} (h1 : a = a') (h2 : b = b') : Ending.returned (.tuple #[.string a, .string b]) = Ending.returned (.tuple #[.string a', .string b']) := by
 rw [h1, h2]
set_option maxHeartbeats 1000000 in
theorem dec_shift (A B : List UInt8) (k : Int) (w : World) (hA : A.length + B.length ≤ 1000) (hk : -2000 ≤ k) (hk2 : k ≤ 2000) :
    Calls Tryz.prog 165 #[.string (bs A), .string (bs B), .int .i64 k] w fun e w' => e = .returned (.tuple #[.string (bs (wholeD (A ++ B) (A.length + k))), .string (bs (restD (A ++ B) (A.length + k)))]) ∧ Below w.heap.size w w' := by
  have sA := bs_size A
  have sB := bs_size B
  have hcat := bs_append A B
  have hcs : (bs (A ++ B)).size = A.length + B.length := by rw [bs_size]; simp
  have hcl : (A ++ B).length = A.length + B.length := by simp
  by_cases h1 : (A.length : Int) + k < 0
  · have hZ := fun w => zeros (-((A.length : Int) + k)).toNat w (by omega)
    have e1 : (((-((A.length : Int) + k)).toNat : Nat) : Int) = -((A.length : Int) + k) := by omega
    rw [e1] at hZ
    have eW : wholeD (A ++ B) (A.length + k) = [] := by
      unfold wholeD
      have : ((A.length : Int) + k).toNat = 0 := by omega
      rw [this]; simp
    have eR : restD (A ++ B) (A.length + k) = List.replicate (-((A.length : Int) + k)).toNat 48 ++ (A ++ B) := by
      unfold restD
      have : ((A.length : Int) + k).toNat = 0 := by omega
      rw [this]; rfl
    have hzs := bs_size (List.replicate (-((A.length : Int) + k)).toNat (48 : UInt8))
    rw [List.length_replicate] at hzs
    have hzs2 : (bs (List.replicate (-((A.length : Int) + k)).toNat (48 : UInt8))).size ≤ 3000 := by rw [hzs]; omega
    have EW := hid eW; have ER := hid eR; clear eW eR e1 hzs
    generalize List.replicate (-((A.length : Int) + k)).toNat (48 : UInt8) = Z at *
    have hcat2 := bs_append Z (A ++ B)
    have Hcat2 := hid hcat2; clear hcat2 hcl
    generalize A ++ B = C at *
    go_enter func165, ntmps165
    go_wp2_with (go_at_call 216; go_must (refine (hZ _).mono ?_); rintro e w1 ⟨rfl, hb1⟩)
    go_ret2
    exact ⟨ret_ss (by rw [EW.out]; rfl) (by rw [ER.out]; exact Hcat2.out), hb1⟩
  · by_cases h2 : (A.length : Int) + (B.length : Int) < (A.length : Int) + k
    · have hZ := fun w => zeros (((A.length : Int) + k) - ((A.length : Int) + (B.length : Int))).toNat w (by omega)
      have e1 : (((((A.length : Int) + k) - ((A.length : Int) + (B.length : Int))).toNat : Nat) : Int) = ((A.length : Int) + k) - ((A.length : Int) + (B.length : Int)) := by omega
      rw [e1] at hZ
      have hzl : (A ++ B ++ List.replicate (((A.length : Int) + k) - ((A.length : Int) + (B.length : Int))).toNat (48 : UInt8)).length = ((A.length : Int) + k).toNat := by
        simp; omega
      have eW : wholeD (A ++ B) (A.length + k) = A ++ B ++ List.replicate (((A.length : Int) + k) - ((A.length : Int) + (B.length : Int))).toNat 48 := by
        unfold wholeD
        rw [List.take_of_length_le (by rw [hcl]; omega)]
        congr 2; rw [hcl]; omega
      have eR : restD (A ++ B) (A.length + k) = [] := by
        unfold restD
        have : (-((A.length : Int) + k)).toNat = 0 := by omega
        rw [this, List.drop_eq_nil_of_le (by rw [hcl]; omega)]; rfl
      have hzs : (bs (List.replicate (((A.length : Int) + k) - ((A.length : Int) + (B.length : Int))).toNat (48 : UInt8))).size ≤ 3000 := by rw [bs_size]; simp; omega
      have EW := hid eW; have ER := hid eR; clear eW eR
      generalize List.replicate (((A.length : Int) + k) - ((A.length : Int) + (B.length : Int))).toNat (48 : UInt8) = Z at *
      have hcat2 := bs_append (A ++ B) Z
      have hc2s := bs_size (A ++ B ++ Z)
      have x1 := ext_take (A ++ B ++ Z) ((A.length : Int) + k).toNat
      have x2 := ext_drop (A ++ B ++ Z) ((A.length : Int) + k).toNat ((A.length : Int) + k).toNat hzl.symm
      rw [← hzl, List.take_length, hzl] at x1
      rw [← hzl, List.drop_length, hzl] at x2
      rw [hzl] at hc2s
      clear e1 hcl
      have hat : ((((A.length : Int) + k).toNat : Nat) : Int) = (A.length : Int) + k := by omega
      generalize A ++ B = C at *
      generalize C ++ Z = D at *
      clear hzl
      go_enter func165, ntmps165
      go_wp2_with (go_at_call 216; go_must (refine (hZ _).mono ?_); rintro e w1 ⟨rfl, hb1⟩)
      have X1 := hid x1; have X2 := hid x2; clear x1 x2
      go_quiet (fail)
      go_wp2
      go_ret2
      exact ⟨ret_ss (by rw [EW.out]; exact X1.out) (by rw [ER.out]; rfl), hb1.trans (bdrewN _ _ |>.mono hb1.size)⟩
    · have eW : wholeD (A ++ B) (A.length + k) = (A ++ B).take ((A.length : Int) + k).toNat := by
        unfold wholeD
        rw [show ((A.length : Int) + k).toNat - (A ++ B).length = 0 from by rw [hcl]; omega]; simp
      have eR : restD (A ++ B) (A.length + k) = (A ++ B).drop ((A.length : Int) + k).toNat := by
        unfold restD
        have : (-((A.length : Int) + k)).toNat = 0 := by omega
        rw [this]; rfl
      have x1 := ext_take (A ++ B) ((A.length : Int) + k).toNat
      have x2 := ext_drop (A ++ B) ((A.length : Int) + k).toNat (A.length + B.length) hcl.symm
      have EW := hid eW; have ER := hid eR; have X1 := hid x1; have X2 := hid x2; clear eW eR x1 x2 hcl
      generalize A ++ B = C at *
      go_enter func165, ntmps165
      go_wp2_with fail
      go_quiet (fail)
      go_wp2
      go_ret2
      exact ⟨ret_ss (by rw [EW.out]; exact X1.out) (by rw [ER.out]; exact X2.out), bdrewN _ _⟩
end
section
/-- what a call that only makes memory leaves alone, cell by cell -/
theorem bcell {W w1 : World} (hb : Below W.heap.size W w1) : (∀ b o, b < W.heap.size → w1.cell? ⟨b, o, none⟩ = W.cell? ⟨b, o, none⟩) ∧ (∀ b o, b < W.heap.size → w1.frozen? ⟨b, o, none⟩ = W.frozen? ⟨b, o, none⟩) :=
 ⟨fun b o h => hb.cell (p := ⟨b, o, none⟩) h, fun b o h => hb.frozen (p := ⟨b, o, none⟩) h⟩
theorem balloc {w w1 : World} {o : Obj} (hb : Below (w.alloc o).heap.size (w.alloc o) w1) : Below w.heap.size w w1 :=
 ((Below.refl _ _).alloc (Nat.le_refl _) o).trans (hb.mono (by simp))
theorem bset3 {w w1 : World} (hb : Below w.heap.size w w1) (a b c : Value) : Below w.heap.size w (((w1.setCell ⟨w.heap.size, 0, none⟩ a).setCell ⟨w.heap.size, 1, none⟩ b).setCell ⟨w.heap.size, 2, none⟩ c) :=
 ((hb.setCell (p := ⟨w.heap.size, 0, none⟩) (Nat.le_refl _) _).setCell (p := ⟨w.heap.size, 1, none⟩) (Nat.le_refl _) _).setCell (p := ⟨w.heap.size, 2, none⟩) (Nat.le_refl _) _
/-- what is ahead of a byte, what is behind it, is it there -/
def cutC (x : UInt8) : List UInt8 → List UInt8 × List UInt8 × Bool
 | [] => ([], [], false)
 | c :: r => if c = x then ([], r, true) else (c :: (cutC x r).1, (cutC x r).2)
theorem cutC_yes (x : UInt8) (B : List UInt8) : ∀ A : List UInt8, x ∉ A → cutC x (A ++ x :: B) = (A, B, true)
 | [], _ => by simp [cutC]
 | c :: A, h => by
  simp only [List.mem_cons, not_or] at h
  have ih := cutC_yes x B A h.2
  simp [cutC, ih, Ne.symm h.1]
theorem cutC_no (x : UInt8) : ∀ l : List UInt8, x ∉ l → cutC x l = (l, [], false)
 | [], _ => rfl
 | c :: l, h => by
  simp only [List.mem_cons, not_or] at h
  have ih := cutC_no x l h.2
  simp [cutC, ih, Ne.symm h.1]
theorem cutC_len (x : UInt8) (l : List UInt8) : (cutC x l).1.length + (cutC x l).2.1.length ≤ l.length := by
 induction l with
 | nil => simp [cutC]
 | cons c r ih => unfold cutC; split <;> simp; omega
theorem lib_cut (x : UInt8) (l : List UInt8) (w : World) (hl : l.length ≤ 100000000) :
  Calls Tryz.prog 208 #[.string (bs l), .string ⟨#[x]⟩] w fun e w' => e = .returned (.tuple #[.string (bs (cutC x l).1), .string (bs (cutC x l).2.1), .bool (cutC x l).2.2]) ∧ Below w.heap.size w w' := by
 by_cases h : x ∈ l
 ·
  obtain ⟨A, B, rfl, hA⟩ := split_at x l h
  rw [cutC_yes x B A hA]; exact cut1_yes A B x w hl hA
 ·
  rw [cutC_no x l h]; exact cut1_no l x w h
/-- a token that is a number: its kind, its number, is it one, the error -/
structure TokR where
 kind : Int
 n : Int
 ok : Bool
 e : Int
def TokR.val (t : TokR) : Value := .tuple #[.agg #[.int .i64 t.kind, .int .i64 t.n, .string ⟨#[]⟩], .bool t.ok, .int .i64 t.e]
def tokNone : TokR := ⟨0, 0, false, 0⟩
def tokGreat : TokR := ⟨0, 0, true, 9⟩
def tokInt (n : Int) : TokR := ⟨1, n, true, 0⟩
def tokReal (n : Int) : TokR := ⟨2, n, true, 0⟩
def radixLoop (base : Nat) : List UInt8 → Nat → Bool → Option (Nat × Bool)
 | [], n, over => some (n, over)
 | c :: r, n, over => if base ≤ hexN c then none else if 4294967296 ≤ n * base + hexN c then radixLoop base r 0 true else radixLoop base r (n * base + hexN c) over
def radixRes : Option (Nat × Bool) → TokR
 | none => tokNone
 | some (n, over) => if over then tokGreat else tokInt (if 2147483648 ≤ n then (n : Int) - 4294967296 else n)
def radixOk (l : List UInt8) : Bool := (cutC 35 l).2.2 && !(cutC 35 l).1.isEmpty && decide ((cutC 35 l).1.length ≤ 2) && (cutC 35 l).1.all isDig && !(cutC 35 l).2.1.isEmpty
set_option maxRecDepth 100000 in
set_option maxHeartbeats 2000000 in
theorem dec_radix_not (l : List UInt8) (w : World) (hl : l.length ≤ 1000) (hno : radixOk l = false) :
    Calls Tryz.prog 161 #[.string (bs l)] w fun e w' => e = .returned tokNone.val ∧ Below w.heap.size w w' := by
  have hC := fun w => lib_cut 35 l w (by omega)
  have hcl := cutC_len 35 l
  unfold radixOk at hno
  generalize cutC 35 l = p at *
  obtain ⟨A, B, f⟩ := p
  simp only at hno hC hcl
  have sA := bs_size A
  cases f with
  | false =>
    clear hno
    go_enter func161, ntmps161
    go_wp2_with (go_at_call 208; go_must (refine (hC _).mono ?_); rintro e w1 ⟨rfl, hb1⟩; obtain ⟨hc1, hf1⟩ := bcell hb1; have hz1 := hb1.size; simp at hz1; replace hz1 := Nat.lt_of_succ_le hz1)
    exact bodyPost_ret (v := tokNone.val) (by simp [results, Tryz.results161, go_sem, hc1, TokR.val, tokNone]) rfl ⟨rfl, bset3 (balloc hb1) _ _ _⟩
  | true =>
    simp only [Bool.true_and] at hno
    have sB := bs_size B
    have hT := bs_toList
    by_cases hA0 : A.isEmpty = true
    · obtain rfl : A = [] := by simpa using hA0
      clear hno hA0
      go_enter func161, ntmps161
      go_wp2_with (go_at_call 208; go_must (refine (hC _).mono ?_); rintro e w1 ⟨rfl, hb1⟩; obtain ⟨hc1, hf1⟩ := bcell hb1; have hz1 := hb1.size; simp at hz1; replace hz1 := Nat.lt_of_succ_le hz1)
      exact bodyPost_ret (v := tokNone.val) (by simp [results, Tryz.results161, go_sem, hc1, TokR.val, tokNone]) rfl ⟨rfl, bset3 (balloc hb1) _ _ _⟩
    · have hA1 : A.isEmpty = false := by simpa using hA0
      have hAe : (bs A).toList.isEmpty = false := by rw [bs_toList]; exact hA1
      rw [hA1] at hno
      by_cases hA2 : 2 < A.length
      · clear hno hA0 hA1 hT
        go_enter func161, ntmps161
        go_wp2_with (go_at_call 208; go_must (refine (hC _).mono ?_); rintro e w1 ⟨rfl, hb1⟩; obtain ⟨hc1, hf1⟩ := bcell hb1; have hz1 := hb1.size; simp at hz1; replace hz1 := Nat.lt_of_succ_le hz1)
        exact bodyPost_ret (v := tokNone.val) (by simp [results, Tryz.results161, go_sem, hc1, TokR.val, tokNone]) rfl ⟨rfl, bset3 (balloc hb1) _ _ _⟩
      · have hPl := fun w => dec_plain A w (by omega)
        cases hall : A.all isDig with
        | false =>
          rw [hall] at hPl
          clear hno hA0 hA1 hall hT
          go_enter func161, ntmps161
          go_wp2_with first | (go_at_call 208; go_must (refine (hC _).mono ?_); rintro e w1 ⟨rfl, hb1⟩; obtain ⟨hc1, hf1⟩ := bcell hb1; have hz1 := hb1.size; simp at hz1; replace hz1 := Nat.lt_of_succ_le hz1) | (go_at_call 209; go_must (refine (hPl _).mono ?_); rintro e w2 ⟨rfl, hb2⟩; obtain ⟨hc2, hf2⟩ := bcell hb2; have hz2 := hb2.size)
          exact bodyPost_ret (v := tokNone.val) (by simp [results, Tryz.results161, go_sem, hc1, hc2, hz1, TokR.val, tokNone]) rfl ⟨rfl, bset3 (btr (balloc hb1) hb2) _ _ _⟩
        | true =>
          rw [hall] at hPl hno
          have hle : decide (A.length ≤ 2) = true := by simp; omega
          rw [hle] at hno
          obtain rfl : B = [] := by simpa using hno
          have hBe : (bs []).toList.isEmpty = true := by rw [bs_toList]; rfl
          clear hno hA0 hA1 hall hle hT
          go_enter func161, ntmps161
          go_wp2_with first | (go_at_call 208; go_must (refine (hC _).mono ?_); rintro e w1 ⟨rfl, hb1⟩; obtain ⟨hc1, hf1⟩ := bcell hb1; have hz1 := hb1.size; simp at hz1; replace hz1 := Nat.lt_of_succ_le hz1) | (go_at_call 209; go_must (refine (hPl _).mono ?_); rintro e w2 ⟨rfl, hb2⟩; obtain ⟨hc2, hf2⟩ := bcell hb2; have hz2 := hb2.size)
          exact bodyPost_ret (v := tokNone.val) (by simp [results, Tryz.results161, go_sem, hc1, hc2, hz1, TokR.val, tokNone]) rfl ⟨rfl, bset3 (btr (balloc hb1) hb2) _ _ _⟩
theorem tokCells {w w' : World} {a b c : Value} {t : TypeId} (hb : Below (w.alloc (.cells #[a, b, c] t)).heap.size (w.alloc (.cells #[a, b, c] t)) w') :
  w'.cell? ⟨w.heap.size, 0, none⟩ = some a ∧ w'.cell? ⟨w.heap.size, 1, none⟩ = some b ∧ w'.cell? ⟨w.heap.size, 2, none⟩ = some c ∧
  w'.frozen? ⟨w.heap.size, 0, none⟩ = false ∧ w'.frozen? ⟨w.heap.size, 1, none⟩ = false ∧ w'.frozen? ⟨w.heap.size, 2, none⟩ = false := by
 have hlt : w.heap.size < (w.alloc (.cells #[a, b, c] t)).heap.size := by simp
 rw [hb.cell (p := ⟨w.heap.size, 0, none⟩) hlt, hb.cell (p := ⟨w.heap.size, 1, none⟩) hlt, hb.cell (p := ⟨w.heap.size, 2, none⟩) hlt, hb.frozen (p := ⟨w.heap.size, 0, none⟩) hlt, hb.frozen (p := ⟨w.heap.size, 1, none⟩) hlt, hb.frozen (p := ⟨w.heap.size, 2, none⟩) hlt]
 refine ⟨?_, ?_, ?_, ?_, ?_, ?_⟩ <;> go_simp
theorem radixLoop_drop (base : Nat) (B : List UInt8) (k n : Nat) (over : Bool) (h : k < B.length) :
  radixLoop base (B.drop k) n over = if base ≤ hexN B[k] then none else if 4294967296 ≤ n * base + hexN B[k] then radixLoop base (B.drop (k + 1)) 0 true else radixLoop base (B.drop (k + 1)) (n * base + hexN B[k]) over := by
 rw [List.drop_eq_getElem_cons h]; rfl
def radixV (A B : List UInt8) : TokR := if natOf A < 2 ∨ 36 < natOf A then tokNone else radixRes (radixLoop (natOf A) B 0 false)
set_option maxRecDepth 100000 in
set_option maxHeartbeats 4000000 in
theorem dec_radix_yes (l A B : List UInt8) (w : World) (hl : l.length ≤ 1000) (hcut : cutC 35 l = (A, B, true)) (hA0 : A ≠ []) (hA2 : A.length ≤ 2) (hall : A.all isDig = true) (hB0 : B ≠ []) :
    Calls Tryz.prog 161 #[.string (bs l)] w fun e w' => e = .returned (radixV A B).val ∧ Below w.heap.size w w' := by
  have hC := fun w => lib_cut 35 l w (by omega)
  have hcl := cutC_len 35 l
  rw [hcut] at hC hcl
  simp only at hC hcl
  clear hcut
  have sA := bs_size A
  have sB := bs_size B
  have hAe : (bs A).toList.isEmpty = false := by rw [bs_toList]; cases A <;> simp at *
  have hBe : (bs B).toList.isEmpty = false := by rw [bs_toList]; cases B <;> simp at *
  have hPl := fun w => dec_plain A w (by omega)
  rw [hall] at hPl
  have hdig : ∀ c ∈ A, isDig c = true := List.all_eq_true.1 hall
  have hnat : ∀ k, natOf (A.take k) < 100 := by
    intro k
    have h1 := natOf_take_le A k
    have h2 := natOf_lt A hdig
    have h4 : 10 ^ A.length ≤ 10 ^ 2 := Nat.pow_le_pow_right (by decide) hA2
    omega
  have Hdig := hid hdig; have Hnat := hid hnat
  clear hA0 hB0 hall hdig hnat
  go_enter func161, ntmps161
  go_wp2_with first | (go_at_call 208; go_must (refine (hC _).mono ?_); rintro e w1 ⟨rfl, hb1⟩; obtain ⟨hc1, hf1⟩ := bcell hb1; have hz1 := hb1.size; simp at hz1; replace hz1 := Nat.lt_of_succ_le hz1) | (go_at_call 209; go_must (refine (hPl _).mono ?_); rintro e w2 ⟨rfl, hb2⟩; obtain ⟨hc2, hf2⟩ := bcell hb2; have hz2 := hb2.size) | (refine wpList_conv_bytes rfl _ _ _ _ rfl underlying9 underlying22 underlying5 _ rfl ?_; intro cap w3 hcap hrow hg hsz)
  have hbw : Below (w.alloc (Obj.cells #[Value.int .i64 0, Value.int .i64 0, Value.string ⟨#[]⟩] 143)).heap.size (w.alloc (Obj.cells #[Value.int .i64 0, Value.int .i64 0, Value.string ⟨#[]⟩] 143)) w3 := btr (btr hb1 hb2) (below_of_grown hg)
  have Hrow := hid hrow
  clear hc1 hf1 hc2 hf2 hb1 hb2 hz2 hrow hg hC hPl hAe hBe hcap hsz hz1
  go_loop [8, 46] (fun n i => ∃ k : Nat, k ≤ A.length ∧ i = .int .i64 k ∧ n = .int .i64 (natOf (A.take k) : Int)) (fun _ i => A.length - (intOf i).toNat)
  case atStart => exact ⟨0, Nat.zero_le _, rfl, rfl⟩
  case round =>
    obtain ⟨k, hk, rfl, rfl⟩ := hrel
    have hle := Hnat.out k
    by_cases hkl : k < A.length
    · have hstep := natOf_take A k hkl
      have hd := isDig_bounds (Hdig.out A[k] (by simp))
      have hc := (Hrow.out k _ (byteVals_at A k hkl)).1
      have Hstep := hid hstep; clear hstep
      generalize natOf (A.take k) = N at *
      generalize A[k].toNat = c at *
      go_wp2
      go_round
      case rel => exact ⟨k + 1, by omega, by go_num, by rw [Hstep.out]; go_num⟩
      case measure => simp [intOf]; omega
    · obtain rfl : k = A.length := by omega
      rw [List.take_length] at hle ⊢
      clear Hrow Hnat hkl
      generalize hgN : natOf A = N at *
      have HgN := hid hgN; clear hgN
      by_cases hbad : N < 2 ∨ 36 < N
      · have Hbad := hid hbad
        obtain ⟨c0, c1, c2, f0, f1, f2⟩ := tokCells hbw
        go_wp2
        all_goals exact bodyPost_ret (v := tokNone.val) (by simp [results, Tryz.results161, go_sem, c0, c1, c2, TokR.val, tokNone]) rfl ⟨by rw [radixV, HgN.out, if_pos Hbad.out], bset3 (balloc hbw) _ _ _⟩
      · have hb2 : 2 ≤ N := by omega
        have hb36 : N ≤ 36 := by omega
        have Hbad := hid hbad; clear hbad
        go_wp2_with (refine wpList_conv_bytes rfl _ _ _ _ rfl underlying9 underlying22 underlying5 _ rfl ?_; intro cap2 w4 hcap2 hrow hg hsz2)
        have hbw4 := hbw.trans ((below_of_grown hg).mono hbw.size)
        obtain ⟨c0, c1, c2, f0, f1, f2⟩ := tokCells hbw4
        have Hrow := hid hrow
        clear hrow hg hcap2 hsz2 hbw
        have hfin : (if N < 2 ∨ 36 < N then tokNone else radixRes (radixLoop N B 0 false)) = radixRes (radixLoop N B 0 false) := if_neg Hbad.out
        have Hfin := hid hfin; clear hfin
        go_loop [11, 12, 67] (fun n o i => ∃ (k : Nat) (n0 : Nat) (ov : Bool), k ≤ B.length ∧ i = .int .i64 k ∧ n = .int .i64 n0 ∧ o = .bool ov ∧ n0 < 4294967296 ∧ radixLoop N (B.drop k) n0 ov = radixLoop N B 0 false) (fun _ _ i => B.length - (intOf i).toNat)
        case atStart => exact ⟨0, 0, false, Nat.zero_le _, rfl, rfl, rfl, by omega, rfl⟩
        case round =>
          obtain ⟨k, n0, ov, hk, rfl, rfl, rfl, hn0, hrr⟩ := hrel
          have Hrr := hid hrr; clear hrr
          by_cases hkl : k < B.length
          · have hstep := radixLoop_drop N B k n0 ov hkl
            have hc := (Hrow.out k _ (byteVals_at B k hkl)).1
            have hx := hexN_le B[k]
            have hD := fun w => dec_digit B[k] w
            generalize hexN B[k] = d at *
            generalize B[k] = c at *
            obtain ⟨P, hP⟩ : ∃ P : Nat, P = n0 * N := ⟨_, rfl⟩
            have hPi : (n0 : Int) * (N : Int) = (P : Int) := by rw [hP, Int.natCast_mul]
            have hP2 : P ≤ 154618822656 := by
              have h := Nat.mul_le_mul (show n0 ≤ 4294967296 by omega) hb36
              rw [← hP] at h; omega
            rw [← hP] at hstep
            have Hstep := hid hstep; clear hstep hP
            by_cases hdN : N ≤ d
            · go_wp2_with (go_at_call 212; go_must (refine (hD _).mono ?_); rintro e w5 ⟨rfl, rfl⟩)
              refine bodyPost_ret (v := tokNone.val) (by simp [results, Tryz.results161, go_sem, c0, c1, c2, TokR.val, tokNone]) rfl ⟨?_, bset3 (balloc hbw4) _ _ _⟩
              rw [radixV, HgN.out, Hfin.out, ← Hrr.out, Hstep.out, if_pos hdN]; rfl
            · by_cases hov : 4294967296 ≤ P + d
              · have hov2 : (4294967296 : Int) ≤ (P : Int) + (d : Int) := by omega
                have Hov := hid hov; clear hov
                go_wp2_with (go_at_call 212; go_must (refine (hD _).mono ?_); rintro e w5 ⟨rfl, rfl⟩)
                go_round
                case rel => exact ⟨k + 1, 0, true, by omega, by go_num, rfl, rfl, by omega, by rw [← Hrr.out, Hstep.out, if_neg hdN, if_pos Hov.out]⟩
                case measure => simp [intOf]; omega
              · have hov2 : decide ((4294967296 : Int) ≤ (P : Int) + (d : Int)) = false := decide_eq_false (by omega)
                have hPd : P + d < 4294967296 := by omega
                have Hov := hid hov; have HPd := hid hPd; clear hov hPd
                go_wp2_with (go_at_call 212; go_must (refine (hD _).mono ?_); rintro e w5 ⟨rfl, rfl⟩)
                go_round
                case rel => exact ⟨k + 1, P + d, ov, by omega, by go_num, by go_num, rfl, HPd.out, by rw [← Hrr.out, Hstep.out, if_neg hdN, if_neg Hov.out]⟩
                case measure => simp [intOf]; omega
          · obtain rfl : k = B.length := by omega
            have hend : radixLoop N B 0 false = some (n0, ov) := by
              rw [← Hrr.out, List.drop_length]; rfl
            have Hend := hid hend; clear hend Hrow hkl
            cases ov with
            | true =>
              go_wp2
              refine bodyPost_ret (v := tokGreat.val) (by simp [results, Tryz.results161, go_sem, c0, c1, c2, TokR.val, tokGreat]) rfl ⟨?_, bset3 (balloc hbw4) _ _ _⟩
              rw [radixV, HgN.out, Hfin.out, Hend.out]; rfl
            | false =>
              by_cases hbig : 2147483648 ≤ n0
              · have hbd : decide ((2147483648 : Int) ≤ (n0 : Int)) = true := decide_eq_true (by omega)
                have Hbig := hid hbig; clear hbig
                go_wp2
                have hbig := Hbig.out
                refine bodyPost_ret (v := (tokInt ((n0 : Int) - 4294967296)).val) (by simp [results, Tryz.results161, go_sem, c0, c1, c2, TokR.val, tokInt]) rfl ⟨?_, bset3 (balloc hbw4) _ _ _⟩
                rw [radixV, HgN.out, Hfin.out, Hend.out]
                rw [radixRes]; simp only [Bool.false_eq_true, if_false, hbig]; rfl
              · have hbd : decide ((2147483648 : Int) ≤ (n0 : Int)) = false := decide_eq_false (by omega)
                have Hbig := hid hbig; clear hbig
                go_wp2
                have hbig := Hbig.out
                refine bodyPost_ret (v := (tokInt (n0 : Int)).val) (by simp [results, Tryz.results161, go_sem, c0, c1, c2, TokR.val, tokInt]) rfl ⟨?_, bset3 (balloc hbw4) _ _ _⟩
                rw [radixV, HgN.out, Hfin.out, Hend.out]
                rw [radixRes]; simp only [Bool.false_eq_true, if_false, hbig]
def radixL (l : List UInt8) : TokR := if radixOk l then radixV (cutC 35 l).1 (cutC 35 l).2.1 else tokNone
theorem dec_radix (l : List UInt8) (w : World) (hl : l.length ≤ 1000) :
  Calls Tryz.prog 161 #[.string (bs l)] w fun e w' => e = .returned (radixL l).val ∧ Below w.heap.size w w' := by
 unfold radixL
 cases hok : radixOk l with
 | false => exact dec_radix_not l w hl hok
 | true =>
  unfold radixOk at hok
  simp only [Bool.and_eq_true, decide_eq_true_eq, Bool.not_eq_true', List.isEmpty_eq_false_iff] at hok
  obtain ⟨⟨⟨⟨h1, h2⟩, h3⟩, h4⟩, h5⟩ := hok
  have hc : cutC 35 l = ((cutC 35 l).1, (cutC 35 l).2.1, true) := by rw [← h1]
  exact dec_radix_yes l _ _ w hl hc h2 h3 h4 h5
end
section
def eE : ByteArray := ⟨#[101, 69]⟩
theorem eE_size : eE.size = 2 := rfl
theorem eE_1 (h : 1 < eE.size) : eE[1]'h = 69 := rfl
theorem eE_tail : eE.extract 2 2 = bs [] := rfl
theorem eE_asc : ∀ i (h : i < eE.size), (eE[i]'h).toNat < 128 := by
 intro i h
 have h2 : i < 2 := h
 obtain rfl | rfl : i = 0 ∨ i = 1 := by omega
 ·
  show (101 : UInt8).toNat < 128; decide
 ·
  show (69 : UInt8).toNat < 128; decide
def isE (c : UInt8) : Bool := c == 101 || c == 69
theorem encode_two (r : Nat) (h : 128 ≤ r) (h2 : r < 2048) : Utf8.encode (r : Int) = ⟨#[UInt8.ofNat (192 + r / 64), UInt8.ofNat (128 + r % 64)]⟩ := by
 have hv : Utf8.valid (r : Int) = true := by simp [Utf8.valid]; omega
 unfold Utf8.encode
 simp only [hv, if_true, Int.toNat_natCast]
 rw [if_neg (by omega), if_pos (by omega)]
theorem encode_more (r : Nat) (h2 : 2048 ≤ r) (h3 : Utf8.valid (r : Int) = true) : 3 ≤ (Utf8.encode (r : Int)).size ∧ (Utf8.encode (r : Int)).size ≤ 4 := by
 unfold Utf8.encode
 simp only [h3, if_true, Int.toNat_natCast]
 rw [if_neg (by omega), if_neg (by omega)]
 split <;> simp [ByteArray.size]
/-- a quiet callee behind a quiet region -/
theorem quiet_add_same {P : Program} {f : FuncId} {args : Array Value} {w : World} {a n : Nat} {v : Value}
  (h : Calls P f args (w.drewN (a + n)) fun e w' => e = .returned v ∧ w' = w.drewN (a + n)) :
  Calls P f args (w.drewN (a + n)) fun e w'' => e = .returned v ∧ ∃ m, w'' = w.drewN (a + m) :=
 h.mono fun _ _ ⟨he, hm⟩ => ⟨he, n, hm⟩
theorem indexByte_nil (c : Int) (w : World) :
  Calls Tryz.prog 60 #[.string ByteArray.empty, .int .u8 c] w fun e w' => e = .returned (.int .i64 (-1)) ∧ w' = w :=
 Tryz.strings_IndexByte ByteArray.empty c w
set_option maxRecDepth 100000 in
set_option maxHeartbeats 4000000 in
theorem indexRune_two (r : Nat) (w : World) (h : 128 ≤ r) (h2 : r < 2048) :
  Calls Tryz.prog 213 #[.string eE, .int .i32 (r : Int)] w fun e w' => e = .returned (.int .i64 (-1)) ∧ Below w.heap.size w w' := by
 have hV := fun w => (Tryz.utf8_ValidRune (r : Int) w)
 have hvr : Lib.validRune (r : Int) = true := by simp [Lib.validRune]; omega
 rw [hvr] at hV
 have henc := encode_two r h h2
 have hs : (Utf8.encode (r : Int)).size = 2 := by rw [henc]; rfl
 obtain ⟨c, hc⟩ : ∃ c : UInt8, c = UInt8.ofNat (128 + r % 64) := ⟨_, rfl⟩
 have hc1 : c.toNat = 128 + r % 64 := by rw [hc, UInt8.toNat_ofNat']; omega
 have hget : ∀ h, (Utf8.encode (r : Int))[1]'h = c := by rw [henc, hc]; intro _; rfl
 have hne : ((69 : Int) != (c.toNat : Int)) = true := by rw [bne_iff_ne]; omega
 have e1 := eE_size
 have e2 := eE_1
 have e3 := eE_tail
 have hne3 : ((r : Int) == 65533) = false := by rw [beq_eq_false_iff_ne]; omega
 have hlt : decide ((r : Int) < 128) = false := decide_eq_false (by omega)
 have hlt2 : ¬ ((r : Int) < 128) := by omega
 have hget1 : (Utf8.encode (r : Int))[1]'(by rw [hs]; omega) = c := hget _
 have Hget := hid hget1
 clear hc hc1 henc hvr hget hget1
 generalize eE = s at *
 go_enter func213, ntmps213
 go_wp2_with (go_at_call 242; go_must (refine (hV _).mono ?_); rintro e w1 ⟨rfl, rfl⟩)
 go_step3
 go_wp2_with fail
 go_loopw [9] (fun v wr => v = .int .i64 1 ∧ wr = w1) (fun _ _ => 0)
 case atStart => exact ⟨rfl, rfl⟩
 case round =>
  obtain ⟨rfl, rfl⟩ := hrel
  go_wp2
  go_step3
  go_wp2_with fail
  have hget := Hget.out
  go_quiet (fail)
  go_wp2_with fail
  have hwr : IntKind.i64.wrap 2 = 2 := rfl
  go_quiet ((go_at_call 60; exact quiet_add_same (indexByte_nil _ _)))
  go_wp2_with fail
  rw [Exit.noGoto_ret]
  simp (config := {zetaDelta := true}) only [Exit.inBlock, Exit.then, Exit.noGoto]
  go_ret
  exact ⟨rfl, by simpa using bdrewN _ _⟩
set_option maxRecDepth 100000 in
set_option maxHeartbeats 4000000 in
theorem indexRune_more (r : Nat) (w : World) (h2 : 2048 ≤ r) (hv : Utf8.valid (r : Int) = true) (h3 : r ≠ 65533) :
  Calls Tryz.prog 213 #[.string eE, .int .i32 (r : Int)] w fun e w' => e = .returned (.int .i64 (-1)) ∧ Below w.heap.size w w' := by
 have hV := fun w => (Tryz.utf8_ValidRune (r : Int) w)
 have hvr : Lib.validRune (r : Int) = true := by rw [← hv, Bool.eq_iff_iff]; simp [Lib.validRune, Utf8.valid]; omega
 rw [hvr] at hV
 have hrl : r < 1114112 := by simp [Utf8.valid] at hv; omega
 obtain ⟨hm1, hm2⟩ := encode_more r h2 hv
 obtain ⟨z, hz⟩ : ∃ z : Nat, (Utf8.encode (r : Int)).size = z := ⟨_, rfl⟩
 have e1 := eE_size
 have hne3 : ((r : Int) == 65533) = false := by rw [beq_eq_false_iff_ne]; omega
 have hlt : decide ((r : Int) < 128) = false := decide_eq_false (by omega)
 have hlt2 : ¬ ((r : Int) < 128) := by omega
 rw [hz] at hm1 hm2
 clear hvr hv
 generalize eE = s at *
 go_enter func213, ntmps213
 go_wp2_with (go_at_call 242; go_must (refine (hV _).mono ?_); rintro e w1 ⟨rfl, rfl⟩)
 go_step3
 go_wp2_with fail
 go_loopw [9] (fun v wr => v = .int .i64 ((z : Int) - 1) ∧ wr = w1) (fun _ _ => 0)
 case atStart => exact ⟨rfl, rfl⟩
 case round =>
  obtain ⟨rfl, rfl⟩ := hrel
  have hz2 : decide ((z : Int) - 1 < 2) = false := decide_eq_false (by omega)
  have hz3 : ¬ ((z : Int) - 1 < 2) := by omega
  go_wp2
  go_ret
  exact ⟨rfl, Below.refl _ _⟩
set_option maxRecDepth 100000 in
set_option maxHeartbeats 4000000 in
theorem indexRune_err (w : World) :
  Calls Tryz.prog 213 #[.string eE, .int .i32 65533] w fun e w' => e = .returned (.int .i64 (-1)) ∧ Below w.heap.size w w' := by
 have e1 := eE_size
 have hasc := eE_asc
 have Hasc := hid hasc; clear hasc
 generalize eE = s at *
 go_enter func213, ntmps213
 go_wp2
 go_loopg [5, 6] 2 (fun g _ _ wx => ∃ i : Nat, i + g = 2 ∧ wx = w.iter s i)
 case atStart => exact ⟨0, by omega, rfl⟩
 case round =>
  obtain ⟨i, hig, rfl⟩ := hrel
  cases gk with
  | zero =>
   obtain rfl : i = 2 := by omega
   have hnx := run_next_end (P := Tryz.prog) w s 2
   go_wp2
   go_ret
   exact ⟨rfl, by simpa [World.iter] using (Below.refl w.heap.size w).alloc (Nat.le_refl _) _⟩
  | succ g =>
   have hi : i < s.size := by omega
   have hx128 := Hasc.out i hi
   have hnx := fun ty => run_next_ascii (P := Tryz.prog) w s i ty hi hx128
   generalize s[i].toNat = c at *
   have hne : ((c : Int) == 65533) = false := by rw [beq_eq_false_iff_ne]; omega
   go_wp2
   go_roundg g
   case measure => omega
   case rel => exact ⟨i + 1, by omega, rfl⟩
theorem decode_skip (s : ByteArray) (pos : Nat) (h : pos < s.size) (ha : 128 ≤ (s[pos]'h).toNat) :
  128 ≤ (Utf8.decode s pos).1 ∧ Utf8.valid ((Utf8.decode s pos).1 : Int) = true ∧ 1 ≤ (Utf8.decode s pos).2 ∧ pos + (Utf8.decode s pos).2 ≤ s.size ∧ ∀ j, pos < j → j < pos + (Utf8.decode s pos).2 → ∀ hj : j < s.size, 128 ≤ (s[j]'hj).toNat := by
 have hn : ¬ (s[pos]'h).toNat < 128 := by omega
 have hb := (s[pos]'h).toNat_lt
 have hg : ∀ k (hk : pos + k < s.size), s.get! (pos + k) = s[pos + k]'hk := fun k hk => get_at s (pos + k) hk
 have one : ∀ j, pos < j → j < pos + 1 → ∀ hj : j < s.size, 128 ≤ (s[j]'hj).toNat := fun j _ _ _ => by omega
 have herr : Utf8.valid ((Utf8.runeError : Nat) : Int) = true := by decide
 have herr2 : 128 ≤ Utf8.runeError := by decide
 simp only [Utf8.decode, get_at s pos h, hn, if_false]
 split
 ·
  rename_i h2
  simp only [Bool.and_eq_true, decide_eq_true_eq, beq_iff_eq] at h2
  obtain ⟨h2a, h2b, h2c⟩ := h2
  split
  ·
   rename_i h3
   refine ⟨h3, ?_, by omega, by omega, ?_⟩
   ·
    simp [Utf8.valid]; omega
   ·
    intro j hj1 hj2 hj
    obtain rfl : j = pos + 1 := by omega
    rw [hg 1 hj] at h2c; omega
  ·
   exact ⟨herr2, herr, by omega, by omega, one⟩
 ·
  split
  ·
   rename_i h2
   simp only [Bool.and_eq_true, decide_eq_true_eq, beq_iff_eq] at h2
   obtain ⟨⟨h2a, h2b, h2c⟩, h2d, h2e⟩ := h2
   split
   ·
    rename_i h3
    simp only [ge_iff_le, Bool.and_eq_true, decide_eq_true_eq] at h3
    refine ⟨by omega, h3.2, by omega, by omega, ?_⟩
    intro j hj1 hj2 hj
    obtain rfl | rfl : j = pos + 1 ∨ j = pos + 2 := by omega
    ·
     rw [hg 1 hj] at h2c; omega
    ·
     rw [hg 2 hj] at h2e; omega
   ·
    exact ⟨herr2, herr, by omega, by omega, one⟩
  ·
   split
   ·
    rename_i h2
    simp only [Bool.and_eq_true, decide_eq_true_eq, beq_iff_eq] at h2
    obtain ⟨⟨⟨h2a, h2b, h2c⟩, h2d, h2e⟩, h2f, h2g⟩ := h2
    split
    ·
     rename_i h3
     simp only [ge_iff_le, Bool.and_eq_true, decide_eq_true_eq] at h3
     refine ⟨by omega, h3.2, by omega, by omega, ?_⟩
     intro j hj1 hj2 hj
     obtain rfl | rfl | rfl : j = pos + 1 ∨ j = pos + 2 ∨ j = pos + 3 := by omega
     ·
      rw [hg 1 hj] at h2c; omega
     ·
      rw [hg 2 hj] at h2e; omega
     ·
      rw [hg 3 hj] at h2g; omega
    ·
     exact ⟨herr2, herr, by omega, by omega, one⟩
   ·
    exact ⟨herr2, herr, by omega, by omega, one⟩
theorem indexRune_high (r : Nat) (w : World) (h : 128 ≤ r) (hv : Utf8.valid (r : Int) = true) :
  Calls Tryz.prog 213 #[.string eE, .int .i32 (r : Int)] w fun e w' => e = .returned (.int .i64 (-1)) ∧ Below w.heap.size w w' := by
 by_cases h2 : r < 2048
 ·
  exact indexRune_two r w h h2
 ·
  by_cases h3 : r = 65533
  ·
   subst h3; exact indexRune_err w
  ·
   exact indexRune_more r w (by omega) hv h3
/-- what is ahead of the first e, what is behind it, is there one -/
def cutE : List UInt8 → List UInt8 × List UInt8 × Bool
 | [] => ([], [], false)
 | c :: r => if isE c then ([], r, true) else (c :: (cutE r).1, (cutE r).2)
theorem cutE_len (l : List UInt8) : (cutE l).1.length + (cutE l).2.1.length ≤ l.length := by
 induction l with
 | nil => simp [cutE]
 | cons c r ih => unfold cutE; split <;> simp; omega
theorem cutE_yes_join (l : List UInt8) (h : (cutE l).2.2 = true) : ∃ c, isE c = true ∧ l = (cutE l).1 ++ c :: (cutE l).2.1 := by
 induction l with
 | nil => simp [cutE] at h
 | cons c r ih =>
  unfold cutE at h ⊢
  by_cases hc : isE c = true
  ·
   simp only [hc, if_true]; exact ⟨c, hc, rfl⟩
  ·
   simp only [hc] at h ⊢
   obtain ⟨d, hd, e⟩ := ih h
   refine ⟨d, hd, ?_⟩
   show c :: r = c :: ((cutE r).1 ++ d :: (cutE r).2.1)
   rw [← e]
theorem cutE_no_join (l : List UInt8) (h : (cutE l).2.2 = false) : (cutE l).1 = l ∧ (cutE l).2.1 = [] := by
 induction l with
 | nil => simp [cutE]
 | cons c r ih =>
  unfold cutE at h ⊢
  by_cases hc : isE c = true
  ·
   simp [hc] at h
  ·
   simp only [hc] at h ⊢
   obtain ⟨h1, h2⟩ := ih h
   exact ⟨by show c :: (cutE r).1 = c :: r; rw [h1], h2⟩
def idxE (l : List UInt8) : Int := if (cutE l).2.2 then ((cutE l).1.length : Int) else -1
theorem idxE_any (l : List UInt8) : Lib.indexAny l eE.data.toList = idxE l := by
 induction l with
 | nil => rfl
 | cons c r ih =>
  have hin : eE.data.toList.contains c = isE c := by
   show List.contains [101, 69] c = (c == 101 || c == 69)
   by_cases h1 : c = 101
   ·
    subst h1; rfl
   ·
    by_cases h2 : c = 69
    ·
     subst h2; rfl
    ·
     rw [beq_false_of_ne h1, beq_false_of_ne h2, List.contains, List.elem, beq_false_of_ne h1]
     show List.elem c [69] = _
     rw [List.elem, beq_false_of_ne h2]; rfl
  rw [Lib.indexAny, hin, ih]
  unfold idxE
  rw [cutE]
  by_cases hc : isE c = true
  ·
   simp [hc]
  ·
   simp only [hc]
   by_cases h2 : (cutE r).2.2 = true
   ·
    simp [h2]
    try omega
   ·
    simp [h2]
theorem eE_contains : ∀ x : UInt8, 128 ≤ x.toNat → eE.data.toList.contains x = false := by
 intro x hx
 show List.contains [101, 69] x = false
 have h1 : x ≠ 101 := by rintro rfl; exact absurd hx (by decide)
 have h2 : x ≠ 69 := by rintro rfl; exact absurd hx (by decide)
 rw [List.contains, List.elem, beq_false_of_ne h1]
 show List.elem x [69] = _
 rw [List.elem, beq_false_of_ne h2]; rfl
set_option maxRecDepth 100000 in
set_option maxHeartbeats 4000000 in
theorem lib_IndexAny_short (s : ByteArray) (w : World) (h8 : s.size ≤ 8) :
    Calls Tryz.prog 163 #[.string s, .string eE] w fun e w' => e = .returned (.int .i64 (Lib.indexAny s.data.toList eE.data.toList)) ∧ Below w.heap.size w w' := by
  have hemp : eE.toList.isEmpty = false := by rw [show eE = bs [101, 69] from rfl, bs_toList]; rfl
  have e1 := eE_size
  have h8z : decide ((8 : Int) < (s.size : Int)) = false := decide_eq_false (by omega)
  have hU := fun n w => Tryz.strings_shouldUseASCIISet n w
  have hR := fun c (hc : c < 128) w => Tryz.strings_IndexRune_ascii eE (c : Nat) w (by omega) (by omega)
  have hH := fun r w h hv => indexRune_high r w h hv
  have hci := fun x => Lib.contains_iff_indexByte eE.data.toList x
  have HC := hid eE_contains
  generalize eE = ch at *
  go_enter func163, ntmps163
  go_wp2_with (go_at_call 214; go_must (refine (hU _ _).mono ?_); rintro e w1 ⟨rfl, rfl⟩; rw [h8z])
  obtain ⟨B, hB⟩ : ∃ B, w1.heap.size = B := ⟨_, rfl⟩
  have hit : (w1.iter s 0).heap[B]? = some (.stringIter s 0) := by rw [← hB]; exact World.iter_heap _ _ _
  have hbi : Below B w1 (w1.iter s 0) := by rw [← hB]; exact (Below.refl w1.heap.size w1).alloc (Nat.le_refl _) _
  generalize w1.iter s 0 = wi at *
  rw [hB]
  have HB := hid (show w1.heap.size ≤ B by omega)
  clear hB
  go_loopg [9, 10] s.size (fun g _ _ wx => ∃ i : Nat, i + g = s.size ∧ wx.heap[B]? = some (.stringIter s i) ∧ Below B w1 wx ∧ Lib.NoAny s.data.toList ch.data.toList i)
  case atStart => exact ⟨0, by omega, hit, hbi, Lib.NoAny.zero _ _⟩
  case round =>
    obtain ⟨i, hig, hit, hbx, hno⟩ := hrel
    have HN := hid hno
    clear hno
    cases gk with
    | zero =>
      obtain rfl : i = s.size := by omega
      have hnx := fun ty => Lib.run_next_end_at (P := Tryz.prog) wr B s s.size ty hit (by omega)
      go_wp2
      go_ret
      exact ⟨by rw [Lib.indexAny_none (by rw [← Lib.size_eq]; exact HN.out)]; rfl, hbx.mono HB.out⟩
    | succ g =>
      have hi : i < s.size := by omega
      obtain ⟨x, hx⟩ : ∃ x : UInt8, s[i]'hi = x := ⟨_, rfl⟩
      have hxl : s.data.toList[i]? = some x := by rw [← hx]; exact Lib.data_getElem? s i hi
      by_cases hx128 : x.toNat < 128
      · have hnx := fun ty => Lib.run_next_ascii_at (P := Tryz.prog) wr B s i ty hit hi (by rw [hx]; exact hx128)
        rw [hx] at hnx
        have Hx := hid hxl
        have Hit := hid (Lib.iterAt_heap wr B s i (i + 1) hit)
        have Hb2 := hid (Lib.below_iterAt hbx (Nat.le_refl B) s (i + 1))
        clear hxl hx hit
        have hcon := hci x
        have hback : ((x.toNat : Int)).toNat.toUInt8 = x := by simp
        have hR1 := fun w => hR x.toNat hx128 w
        rw [hback] at hR1
        clear hback hR hH hci hU
        cases hin : ch.data.toList.contains x
        · rw [hin] at hcon
          have hlt : ¬ ((0 : Int) ≤ Lib.indexByte ch.data.toList x) := of_decide_eq_false hcon.symm
          clear hcon
          go_wp2_with (go_at_call 213; go_must (refine (hR1 _).mono ?_); rintro e w2 ⟨rfl, rfl⟩)
          go_roundg g
          case measure => omega
          case rel => exact ⟨i + 1, by omega, Hit.out, Hb2.out, HN.out.succ Hx.out hin⟩
        · rw [hin] at hcon
          have hge : (0 : Int) ≤ Lib.indexByte ch.data.toList x := of_decide_eq_true hcon.symm
          clear hcon
          go_wp2_with (go_at_call 213; go_must (refine (hR1 _).mono ?_); rintro e w2 ⟨rfl, rfl⟩)
          go_ret
          exact ⟨by rw [Lib.indexAny_hit HN.out Hx.out hin]; rfl, Hb2.out.mono HB.out⟩
      · obtain ⟨hd1, hd2, hd3, hd4, hd5⟩ := decode_skip s i hi (by rw [hx]; omega)
        have hnx := fun ty => Lib.run_next_any_at (P := Tryz.prog) wr B s i ty hit hi
        have hno2 : Lib.NoAny s.data.toList ch.data.toList (i + (Utf8.decode s i).2) := by
          intro j b hj hb
          by_cases hji : j < i
          · exact HN.out j b hji hb
          · have hjs : j < s.size := by omega
            rw [Lib.data_getElem? s j hjs] at hb
            have hb2 : s[j] = b := Option.some.inj hb
            have h128 : 128 ≤ b.toNat := by
              by_cases hje : j = i
              · subst hje; rw [← hb2, hx]; omega
              · rw [← hb2]; exact hd5 j (by omega) hj hjs
            exact HC.out b h128
        have Hno2 := hid hno2
        clear hno2 hd5 hxl hx hR hci hU
        have hR1 := fun w => hH _ w hd1 hd2
        generalize (Utf8.decode s i).1 = r at *
        generalize (Utf8.decode s i).2 = n at *
        have Hit := hid (Lib.iterAt_heap wr B s i (i + n) hit)
        have Hb2 := hid (Lib.below_iterAt hbx (Nat.le_refl B) s (i + n))
        clear hit hH hd2
        go_wp2_with (go_at_call 213; go_must (refine (hR1 _).mono ?_); rintro e w2 ⟨rfl, hb3⟩)
        go_roundg (s.size - (i + n))
        case measure => omega
        case rel => exact ⟨i + n, by omega, (hb3.block B (Array.getElem?_eq_some_iff.1 Hit.out).1).trans Hit.out, Hb2.out.trans (hb3.mono (Nat.le_of_lt (Array.getElem?_eq_some_iff.1 Hit.out).1)), Hno2.out⟩
theorem lib_IndexAny (l : List UInt8) (w : World) (hl : l.length ≤ 1000) :
    Calls Tryz.prog 163 #[.string (bs l), .string eE] w fun e w' => e = .returned (.int .i64 (idxE l)) ∧ Below w.heap.size w w' := by
  have hd : (bs l).data.toList = l := by rw [← Lib.toList_data, bs_toList]
  rw [← idxE_any]
  by_cases h8 : l.length ≤ 8
  · have h := lib_IndexAny_short (bs l) w (by rw [bs_size]; exact h8)
    rw [hd] at h; exact h
  · have hz := zero_of_info (P := Tryz.prog) (t := 201) (v := .agg (Array.replicate 256 (.bool false))) (n := 256) (by kernel_rfl)
    have h := Tryz.strings_IndexAny_long hz.1 (bs l) eE w (by rw [eE_size]; omega) (by rw [bs_size]; omega) (by rw [bs_size]; omega) (by rw [eE_size]; omega) (by
      intro j b hj
      have h0 : eE.data.toList = [101, 69] := rfl
      rw [h0] at hj
      have hm := List.mem_of_getElem? hj
      simp only [List.mem_cons, List.not_mem_nil, or_false] at hm
      rcases hm with rfl | rfl <;> decide)
    rw [hd] at h
    refine h.mono fun e w' ⟨h1, h2⟩ => ⟨h1, ?_⟩
    rw [h2]
    exact ((Below.refl w.heap.size w).alloc (Nat.le_refl _) _).alloc (by simp) _
end
section
/-- a real number's token: sign, mantissa, power -/
def finL (m : Bool) (p : List UInt8) (k : Int) : TokR :=
 if mantOk p then
  (if (valueL m (wholeD ((cutDot p).1 ++ (cutDot p).2.1) ((cutDot p).1.length + k)) (restD ((cutDot p).1 ++ (cutDot p).2.1) ((cutDot p).1.length + k))).2 then
   tokReal (valueL m (wholeD ((cutDot p).1 ++ (cutDot p).2.1) ((cutDot p).1.length + k)) (restD ((cutDot p).1 ++ (cutDot p).2.1) ((cutDot p).1.length + k))).1
  else tokGreat)
 else tokNone
def realL2 (l : List UInt8) : TokR :=
 if (cutE (signedL l).2).2.2 then
  (if (powerL (cutE (signedL l).2).2.1).2 then finL (signedL l).1 (cutE (signedL l).2).1 (powerL (cutE (signedL l).2).2.1).1 else tokNone)
 else finL (signedL l).1 (signedL l).2 0
/-- the token that a text is -/
def tokenL (l : List UInt8) : TokR :=
 if 64 < l.length then tokNone
 else if (radixL l).ok then radixL l
 else if (wholeT l).2 then tokInt (wholeT l).1
 else realL2 l
theorem blay {w0 w1 w2 : World} (hb1 : Below w0.heap.size w0 w1) {o : Obj}
  (hb2 : Below (w1.alloc o).heap.size (w1.alloc o) w2) : Below w0.heap.size w0 w2 := by
 have h : Below w0.heap.size w0 (w1.alloc o) := hb1.alloc hb1.size o
 exact h.trans (hb2.mono h.size)
theorem dec_Token_long (l : List UInt8) (w : World) (hl : 64 < l.length) :
  Calls Tryz.prog 115 #[.string (bs l)] w fun e w' => e = .returned tokNone.val ∧ Below w.heap.size w w' := by
 have hs := bs_size l
 go_enter func115, ntmps115
 go_wp2_with fail
 exact bodyPost_ret (v := tokNone.val) (by simp [results, Tryz.results115, go_sem, TokR.val, tokNone]) rfl ⟨rfl, balloc (Below.refl _ _)⟩
set_option maxRecDepth 100000 in
set_option maxHeartbeats 4000000 in
theorem dec_Token_radix (l : List UInt8) (w : World) (hl : l.length ≤ 64) (h : (radixL l).ok = true) :
  Calls Tryz.prog 115 #[.string (bs l)] w fun e w' => e = .returned (radixL l).val ∧ Below w.heap.size w w' := by
 have hs := bs_size l
 have hR := fun w => dec_radix l w (by omega)
 generalize radixL l = R at *
 obtain ⟨k, n, ok, er⟩ := R
 simp only at h
 subst h
 simp only [TokR.val] at hR ⊢
 go_enter func115, ntmps115
 go_wp2_with (go_at_call 161; go_must (refine (hR _).mono ?_); rintro e w1 ⟨rfl, hb1⟩; obtain ⟨c0, c1, c2, f0, f1, f2⟩ := tokCells hb1; have hz1 := hb1.size; simp at hz1; replace hz1 := Nat.lt_of_succ_le hz1)
 refine bodyPost_ret (v := .tuple #[.agg #[.int .i64 k, .int .i64 n, .string ⟨#[]⟩], .bool true, .int .i64 er]) (by simp [results, Tryz.results115, go_sem, c0, c1, c2, hz1]) rfl ⟨rfl, (bset3 (balloc hb1) _ _ _).alloc (by simp; omega) _⟩
set_option maxRecDepth 100000 in
set_option maxHeartbeats 4000000 in
theorem dec_Token_whole (l : List UInt8) (w : World) (hl : l.length ≤ 64) (h : (radixL l).ok = false) (h2 : (wholeT l).2 = true) :
  Calls Tryz.prog 115 #[.string (bs l)] w fun e w' => e = .returned (tokInt (wholeT l).1).val ∧ Below w.heap.size w w' := by
 have hs := bs_size l
 have hR := fun w => dec_radix l w (by omega)
 have hW := fun w => dec_whole l w (by omega)
 generalize radixL l = R at *
 generalize wholeT l = V at *
 obtain ⟨k, n, ok, er⟩ := R
 obtain ⟨v, vok⟩ := V
 simp only at h h2
 subst h h2
 simp only [TokR.val, tokInt] at hR hW ⊢
 go_enter func115, ntmps115
 go_wp2_with first | (go_at_call 161; go_must (refine (hR _).mono ?_); rintro e w1 ⟨rfl, hb1⟩; obtain ⟨c0, c1, c2, f0, f1, f2⟩ := tokCells hb1; have hz1 := hb1.size; simp at hz1; replace hz1 := Nat.lt_of_succ_le hz1) | (go_at_call 162; go_must (refine (hW _).mono ?_); rintro e w2 ⟨rfl, hb2⟩; replace hb2 := blay hb1 hb2; clear c0 c1 c2 f0 f1 f2; obtain ⟨c0, c1, c2, f0, f1, f2⟩ := tokCells hb2)
 refine bodyPost_ret (v := .tuple #[.agg #[.int .i64 1, .int .i64 v, .string ⟨#[]⟩], .bool true, .int .i64 0]) (by simp [results, Tryz.results115, go_sem, c0, c1, c2]) rfl ⟨rfl, bset3 (balloc hb2) _ _ _⟩
theorem powerL_bound (l : List UInt8) : -1000 ≤ (powerL l).1 ∧ (powerL l).1 ≤ 1000 := by
 unfold powerL
 split
 ·
  simp
 ·
  next h =>
  simp only [Bool.or_eq_true, decide_eq_true_eq, Bool.not_eq_true', not_or, Bool.not_eq_false] at h
  obtain ⟨⟨h1, h2⟩, h3⟩ := h
  have h4 := natOf_lt (signedL l).2 (List.all_eq_true.1 h3)
  have h5 : 10 ^ (signedL l).2.length ≤ 10 ^ 3 := Nat.pow_le_pow_right (by decide) (by omega)
  generalize natOf (signedL l).2 = N at *
  split
  ·
   simp only; omega
  ·
   simp only; omega
set_option maxRecDepth 100000 in
set_option maxHeartbeats 8000000 in
theorem dec_Token_plain (l : List UInt8) (w : World) (hl : l.length ≤ 64) (h : (radixL l).ok = false) (h2 : (wholeT l).2 = false) (h3 : (cutE (signedL l).2).2.2 = false) :
  Calls Tryz.prog 115 #[.string (bs l)] w fun e w' => e = .returned (finL (signedL l).1 (signedL l).2 0).val ∧ Below w.heap.size w w' := by
 have hs := bs_size l
 have hR := fun w => dec_radix l w (by omega)
 have hW := fun w => dec_whole l w (by omega)
 have hS := fun w => dec_signed l w (by omega)
 have hlen := signedL_len l
 generalize radixL l = R at *
 generalize wholeT l = V at *
 generalize signedL l = sr at *
 obtain ⟨k, n, ok, er⟩ := R
 obtain ⟨v, vok⟩ := V
 obtain ⟨m, r⟩ := sr
 simp only at h h2 h3 hlen hS ⊢
 subst h h2
 simp only [TokR.val] at hR hW
 have hI : ∀ w, Calls Tryz.prog 163 #[.string (bs r), .string ⟨#[101, 69]⟩] w fun e w' => e = .returned (.int .i64 (-1)) ∧ Below w.heap.size w w' := fun w => by
  have h := lib_IndexAny r w (by omega)
  unfold idxE at h
  rw [h3] at h
  exact h
 have hM := fun w => dec_mantissa r w (by omega)
 have hcl := cutDot_len r
 have hok := mantOk_digits r
 unfold finL
 generalize mantOk r = ok at *
 generalize cutDot r = pq at *
 obtain ⟨A, B, f⟩ := pq
 simp only at hM hok hcl
 clear h3
 cases ok with
 | false =>
  clear hok
  go_enter func115, ntmps115
  go_wp2_with first | (go_at_call 161; go_must (refine (hR _).mono ?_); rintro e w1 ⟨rfl, hb1⟩; obtain ⟨c0, c1, c2, f0, f1, f2⟩ := tokCells hb1; have hz1 := hb1.size; simp at hz1; replace hz1 := Nat.lt_of_succ_le hz1) | (go_at_call 162; go_must (refine (hW _).mono ?_); rintro e w2 ⟨rfl, hb2⟩; replace hb2 := blay hb1 hb2; clear c0 c1 c2 f0 f1 f2; obtain ⟨c0, c1, c2, f0, f1, f2⟩ := tokCells hb2) | (go_at_call 158; go_must (refine (hS _).mono ?_); rintro e w3 ⟨rfl, hb3⟩; replace hb3 := btr hb2 hb3; clear c0 c1 c2 f0 f1 f2; obtain ⟨c0, c1, c2, f0, f1, f2⟩ := tokCells hb3) | (go_at_call 163; go_must (refine (hI _).mono ?_); rintro e w4 ⟨rfl, hb4⟩; replace hb4 := btr hb3 hb4; clear c0 c1 c2 f0 f1 f2; obtain ⟨c0, c1, c2, f0, f1, f2⟩ := tokCells hb4) | (go_at_call 159; go_must (refine (hM _).mono ?_); rintro e w5 ⟨rfl, hb5⟩; replace hb5 := btr hb4 hb5; clear c0 c1 c2 f0 f1 f2; obtain ⟨c0, c1, c2, f0, f1, f2⟩ := tokCells hb5)
  exact bodyPost_ret (v := tokNone.val) (by simp [results, Tryz.results115, go_sem, c0, c1, c2, TokR.val, tokNone]) rfl ⟨rfl, bset3 (balloc hb5) _ _ _⟩
 | true =>
  obtain ⟨hA, hB⟩ := hok rfl
  rw [if_pos rfl]
  have hAB : ∀ c ∈ A ++ B, isDig c = true := by
   intro c hc
   rcases List.mem_append.1 hc with h | h
   ·
    exact hA c h
   ·
    exact hB c h
  have hSh := fun w => dec_shift A B 0 w (by omega) (by omega) (by omega)
  have hV := fun w => dec_value m (wholeD (A ++ B) (A.length + 0)) (restD (A ++ B) (A.length + 0)) w (by simp [restD]; omega) (wholeD_digits _ _ hAB) (restD_digits _ _ hAB)
  clear hok hA hB hAB
  simp only
  generalize wholeD (A ++ B) (A.length + 0) = W at *
  generalize restD (A ++ B) (A.length + 0) = D at *
  generalize valueL m W D = vv at *
  obtain ⟨n2, fit⟩ := vv
  simp only at hV
  cases fit
  all_goals
   go_enter func115, ntmps115
   go_wp2_with first | (go_at_call 161; go_must (refine (hR _).mono ?_); rintro e w1 ⟨rfl, hb1⟩; obtain ⟨c0, c1, c2, f0, f1, f2⟩ := tokCells hb1; have hz1 := hb1.size; simp at hz1; replace hz1 := Nat.lt_of_succ_le hz1) | (go_at_call 162; go_must (refine (hW _).mono ?_); rintro e w2 ⟨rfl, hb2⟩; replace hb2 := blay hb1 hb2; clear c0 c1 c2 f0 f1 f2; obtain ⟨c0, c1, c2, f0, f1, f2⟩ := tokCells hb2) | (go_at_call 158; go_must (refine (hS _).mono ?_); rintro e w3 ⟨rfl, hb3⟩; replace hb3 := btr hb2 hb3; clear c0 c1 c2 f0 f1 f2; obtain ⟨c0, c1, c2, f0, f1, f2⟩ := tokCells hb3) | (go_at_call 163; go_must (refine (hI _).mono ?_); rintro e w4 ⟨rfl, hb4⟩; replace hb4 := btr hb3 hb4; clear c0 c1 c2 f0 f1 f2; obtain ⟨c0, c1, c2, f0, f1, f2⟩ := tokCells hb4) | (go_at_call 159; go_must (refine (hM _).mono ?_); rintro e w5 ⟨rfl, hb5⟩; replace hb5 := btr hb4 hb5; clear c0 c1 c2 f0 f1 f2; obtain ⟨c0, c1, c2, f0, f1, f2⟩ := tokCells hb5) | (go_at_call 165; go_must (refine (hSh _).mono ?_); rintro e w6 ⟨rfl, hb6⟩; replace hb6 := btr hb5 hb6; clear c0 c1 c2 f0 f1 f2; obtain ⟨c0, c1, c2, f0, f1, f2⟩ := tokCells hb6) | (go_at_call 160; go_must (refine (hV _).mono ?_); rintro e w7 ⟨rfl, hb7⟩; replace hb7 := btr hb6 hb7; clear c0 c1 c2 f0 f1 f2; obtain ⟨c0, c1, c2, f0, f1, f2⟩ := tokCells hb7)
  ·
   exact bodyPost_ret (v := tokGreat.val) (by simp [results, Tryz.results115, go_sem, c0, c1, c2, TokR.val, tokGreat]) rfl ⟨rfl, bset3 (balloc hb7) _ _ _⟩
  ·
   exact bodyPost_ret (v := (tokReal n2).val) (by simp [results, Tryz.results115, go_sem, c0, c1, c2, TokR.val, tokReal]) rfl ⟨rfl, bset3 (balloc hb7) _ _ _⟩
set_option maxRecDepth 100000 in
set_option maxHeartbeats 8000000 in
theorem dec_Token_power (l : List UInt8) (w : World) (hl : l.length ≤ 64) (h : (radixL l).ok = false) (h2 : (wholeT l).2 = false) (h3 : (cutE (signedL l).2).2.2 = true) :
  Calls Tryz.prog 115 #[.string (bs l)] w fun e w' => e = .returned (if (powerL (cutE (signedL l).2).2.1).2 then finL (signedL l).1 (cutE (signedL l).2).1 (powerL (cutE (signedL l).2).2.1).1 else tokNone).val ∧ Below w.heap.size w w' := by
 have hs := bs_size l
 have hR := fun w => dec_radix l w (by omega)
 have hW := fun w => dec_whole l w (by omega)
 have hS := fun w => dec_signed l w (by omega)
 have hlen := signedL_len l
 generalize radixL l = R at *
 generalize wholeT l = V at *
 generalize signedL l = sr at *
 obtain ⟨k, n, ok, er⟩ := R
 obtain ⟨v, vok⟩ := V
 obtain ⟨m, r⟩ := sr
 simp only at h h2 h3 hlen hS ⊢
 subst h h2
 simp only [TokR.val] at hR hW
 have hI := fun w => lib_IndexAny r w (by omega)
 obtain ⟨x, -, hrx⟩ := cutE_yes_join r h3
 have hel := cutE_len r
 unfold idxE at hI
 generalize cutE r = cc at *
 obtain ⟨p, q, fd⟩ := cc
 simp only at h3 hrx hI hel ⊢
 subst h3
 rw [if_pos rfl] at hI
 change ∀ w, Calls Tryz.prog 163 #[.string (bs r), .string ⟨#[101, 69]⟩] w _ at hI
 have hrs : (bs r).size = p.length + (q.length + 1) := by rw [bs_size, hrx]; simp
 have hx1 : (bs r).extract (p.length + 1) (p.length + (q.length + 1)) = bs q := by
  rw [← hrs, ext_drop _ _ _ (bs_size r), hrx, List.append_cons, List.drop_left' (by simp)]
 have hx2 : (bs r).extract 0 p.length = bs p := by
  rw [ext_take, hrx]; simp
 have hP := fun w => dec_power q w (by omega)
 obtain ⟨hpb1, hpb2⟩ := powerL_bound q
 have hrl : p.length + (q.length + 1) ≤ 64 := by have h := bs_size r; omega
 have hM := fun w => dec_mantissa p w (by omega)
 have hcl := cutDot_len p
 have hok := mantOk_digits p
 generalize powerL q = pw at *
 obtain ⟨by', pok⟩ := pw
 unfold finL
 simp only at hP hpb1 hpb2 ⊢
 clear hrx hlen hel
 cases pok with
 | false =>
  clear hok
  go_enter func115, ntmps115
  go_wp2_with first | (go_at_call 161; go_must (refine (hR _).mono ?_); rintro e w1 ⟨rfl, hb1⟩; obtain ⟨c0, c1, c2, f0, f1, f2⟩ := tokCells hb1; have hz1 := hb1.size; simp at hz1; replace hz1 := Nat.lt_of_succ_le hz1) | (go_at_call 162; go_must (refine (hW _).mono ?_); rintro e w2 ⟨rfl, hb2⟩; replace hb2 := blay hb1 hb2; clear c0 c1 c2 f0 f1 f2; obtain ⟨c0, c1, c2, f0, f1, f2⟩ := tokCells hb2) | (go_at_call 158; go_must (refine (hS _).mono ?_); rintro e w3 ⟨rfl, hb3⟩; replace hb3 := btr hb2 hb3; clear c0 c1 c2 f0 f1 f2; obtain ⟨c0, c1, c2, f0, f1, f2⟩ := tokCells hb3) | (go_at_call 163; go_must (refine (hI _).mono ?_); rintro e w4 ⟨rfl, hb4⟩; replace hb4 := btr hb3 hb4; clear c0 c1 c2 f0 f1 f2; obtain ⟨c0, c1, c2, f0, f1, f2⟩ := tokCells hb4) | (go_at_call 164; go_must (refine (hP _).mono ?_); rintro e w5 ⟨rfl, hb5⟩; replace hb5 := btr hb4 hb5; clear c0 c1 c2 f0 f1 f2; obtain ⟨c0, c1, c2, f0, f1, f2⟩ := tokCells hb5)
  exact bodyPost_ret (v := tokNone.val) (by simp [results, Tryz.results115, go_sem, c0, c1, c2, TokR.val, tokNone]) rfl ⟨rfl, bset3 (balloc hb5) _ _ _⟩
 | true =>
  rw [if_pos rfl]
  generalize mantOk p = ok at *
  generalize cutDot p = pq at *
  obtain ⟨A, B, f⟩ := pq
  simp only at hM hok hcl
  cases ok with
  | false =>
   clear hok
   go_enter func115, ntmps115
   go_wp2_with first | (go_at_call 161; go_must (refine (hR _).mono ?_); rintro e w1 ⟨rfl, hb1⟩; obtain ⟨c0, c1, c2, f0, f1, f2⟩ := tokCells hb1; have hz1 := hb1.size; simp at hz1; replace hz1 := Nat.lt_of_succ_le hz1) | (go_at_call 162; go_must (refine (hW _).mono ?_); rintro e w2 ⟨rfl, hb2⟩; replace hb2 := blay hb1 hb2; clear c0 c1 c2 f0 f1 f2; obtain ⟨c0, c1, c2, f0, f1, f2⟩ := tokCells hb2) | (go_at_call 158; go_must (refine (hS _).mono ?_); rintro e w3 ⟨rfl, hb3⟩; replace hb3 := btr hb2 hb3; clear c0 c1 c2 f0 f1 f2; obtain ⟨c0, c1, c2, f0, f1, f2⟩ := tokCells hb3) | (go_at_call 163; go_must (refine (hI _).mono ?_); rintro e w4 ⟨rfl, hb4⟩; replace hb4 := btr hb3 hb4; clear c0 c1 c2 f0 f1 f2; obtain ⟨c0, c1, c2, f0, f1, f2⟩ := tokCells hb4) | (go_at_call 164; go_must (refine (hP _).mono ?_); rintro e w5 ⟨rfl, hb5⟩; replace hb5 := btr hb4 hb5; clear c0 c1 c2 f0 f1 f2; obtain ⟨c0, c1, c2, f0, f1, f2⟩ := tokCells hb5) | (go_at_call 159; go_must (refine (hM _).mono ?_); rintro e w6 ⟨rfl, hb6⟩; replace hb6 := btr hb5 hb6; clear c0 c1 c2 f0 f1 f2; obtain ⟨c0, c1, c2, f0, f1, f2⟩ := tokCells hb6)
   exact bodyPost_ret (v := tokNone.val) (by simp [results, Tryz.results115, go_sem, c0, c1, c2, TokR.val, tokNone]) rfl ⟨rfl, bset3 (balloc hb6) _ _ _⟩
  | true =>
   obtain ⟨hA, hB⟩ := hok rfl
   rw [if_pos rfl]
   have hAB : ∀ c ∈ A ++ B, isDig c = true := by
    intro c hc
    rcases List.mem_append.1 hc with h | h
    ·
     exact hA c h
    ·
     exact hB c h
   have hSh := fun w => dec_shift A B by' w (by omega) (by omega) (by omega)
   have hV := fun w => dec_value m (wholeD (A ++ B) (A.length + by')) (restD (A ++ B) (A.length + by')) w (by simp [restD]; omega) (wholeD_digits _ _ hAB) (restD_digits _ _ hAB)
   clear hok hA hB hAB
   simp only
   generalize wholeD (A ++ B) (A.length + by') = W at *
   generalize restD (A ++ B) (A.length + by') = D at *
   generalize valueL m W D = vv at *
   obtain ⟨n2, fit⟩ := vv
   simp only at hV
   cases fit
   all_goals
    go_enter func115, ntmps115
    go_wp2_with first | (go_at_call 161; go_must (refine (hR _).mono ?_); rintro e w1 ⟨rfl, hb1⟩; obtain ⟨c0, c1, c2, f0, f1, f2⟩ := tokCells hb1; have hz1 := hb1.size; simp at hz1; replace hz1 := Nat.lt_of_succ_le hz1) | (go_at_call 162; go_must (refine (hW _).mono ?_); rintro e w2 ⟨rfl, hb2⟩; replace hb2 := blay hb1 hb2; clear c0 c1 c2 f0 f1 f2; obtain ⟨c0, c1, c2, f0, f1, f2⟩ := tokCells hb2) | (go_at_call 158; go_must (refine (hS _).mono ?_); rintro e w3 ⟨rfl, hb3⟩; replace hb3 := btr hb2 hb3; clear c0 c1 c2 f0 f1 f2; obtain ⟨c0, c1, c2, f0, f1, f2⟩ := tokCells hb3) | (go_at_call 163; go_must (refine (hI _).mono ?_); rintro e w4 ⟨rfl, hb4⟩; replace hb4 := btr hb3 hb4; clear c0 c1 c2 f0 f1 f2; obtain ⟨c0, c1, c2, f0, f1, f2⟩ := tokCells hb4) | (go_at_call 164; go_must (refine (hP _).mono ?_); rintro e w5 ⟨rfl, hb5⟩; replace hb5 := btr hb4 hb5; clear c0 c1 c2 f0 f1 f2; obtain ⟨c0, c1, c2, f0, f1, f2⟩ := tokCells hb5) | (go_at_call 159; go_must (refine (hM _).mono ?_); rintro e w6 ⟨rfl, hb6⟩; replace hb6 := btr hb5 hb6; clear c0 c1 c2 f0 f1 f2; obtain ⟨c0, c1, c2, f0, f1, f2⟩ := tokCells hb6) | (go_at_call 165; go_must (refine (hSh _).mono ?_); rintro e w7 ⟨rfl, hb7⟩; replace hb7 := btr hb6 hb7; clear c0 c1 c2 f0 f1 f2; obtain ⟨c0, c1, c2, f0, f1, f2⟩ := tokCells hb7) | (go_at_call 160; go_must (refine (hV _).mono ?_); rintro e w8 ⟨rfl, hb8⟩; replace hb8 := btr hb7 hb8; clear c0 c1 c2 f0 f1 f2; obtain ⟨c0, c1, c2, f0, f1, f2⟩ := tokCells hb8)
   ·
    exact bodyPost_ret (v := tokGreat.val) (by simp [results, Tryz.results115, go_sem, c0, c1, c2, TokR.val, tokGreat]) rfl ⟨rfl, bset3 (balloc hb8) _ _ _⟩
   ·
    exact bodyPost_ret (v := (tokReal n2).val) (by simp [results, Tryz.results115, go_sem, c0, c1, c2, TokR.val, tokReal]) rfl ⟨rfl, bset3 (balloc hb8) _ _ _⟩
theorem dec_Token (l : List UInt8) (w : World) :
  Calls Tryz.prog 115 #[.string (bs l)] w fun e w' => e = .returned (tokenL l).val ∧ Below w.heap.size w w' := by
 unfold tokenL
 by_cases hl : 64 < l.length
 ·
  rw [if_pos hl]; exact dec_Token_long l w hl
 ·
  rw [if_neg hl]
  have hl' : l.length ≤ 64 := by omega
  cases h : (radixL l).ok with
  | true => rw [if_pos rfl]; exact dec_Token_radix l w hl' h
  | false =>
   rw [if_neg (by decide)]
   cases h2 : (wholeT l).2 with
   | true => rw [if_pos rfl]; exact dec_Token_whole l w hl' h h2
   | false =>
    rw [if_neg (by decide)]
    unfold realL2
    cases h3 : (cutE (signedL l).2).2.2 with
    | true => rw [if_pos rfl]; exact dec_Token_power l w hl' h h2 h3
    | false => rw [if_neg (by decide)]; exact dec_Token_plain l w hl' h h2 h3
end
section
theorem ref_Small (n : Int) (w : World) :
  Calls Tryz.prog 219 #[.int .i64 n] w fun e w' => e = .returned (.bool (fitsB n)) ∧ w = w' := by
 have hF := fun w => ref_Fits n w
 generalize fitsB n = f at *
 go_enter func219, ntmps219
 go_wp2_with (go_at_call 62; go_must (refine (hF _).mono ?_); rintro e w1 ⟨rfl, rfl⟩)
 go_ret
 exact ⟨rfl, rfl⟩
theorem cutDot_none (r : List UInt8) (h : ∀ c ∈ r, isDig c = true) : cutDot r = (r, [], false) :=
 cutDot_no r fun hm => absurd (h 46 hm) (by decide)
theorem mant_none (r : List UInt8) (h : ∀ c ∈ r, isDig c = true) (hr : r ≠ []) : mantOk r = true := by
 have hl : 0 < r.length := List.length_pos_iff.2 hr
 simp [mantOk, cutDot_none r h, hl]
 exact h
theorem plainR_whole (r : List UInt8) (h : ∀ c ∈ r, isDig c = true) (hr : r ≠ []) : plainR r = (r, r.length, false, true) := by
 rw [(plain_mant r).2 (mant_none r h hr), cutDot_none r h]
 simp
theorem plainR_other (r : List UInt8) (h : (r.isEmpty || !r.all isDig) = true) : (plainR r).2.2.2 = false ∨ (plainR r).2.2.1 = true := by
 obtain ⟨h1, h2⟩ := plain_mant r
 cases hm : mantOk r with
 | false => left; rw [h1, hm]
 | true =>
  right
  rw [h2 hm]
  simp only
  cases hf : (cutDot r).2.2 with
  | true => rfl
  | false =>
   exfalso
   have hA : 46 ∉ r := by
    intro hin
    obtain ⟨A, B, rfl, hA⟩ := split_at 46 r hin
    rw [cutDot_yes B A hA] at hf
    cases hf
   have e := cutDot_no r hA
   obtain ⟨d1, -⟩ := mantOk_digits r hm
   rw [e] at d1
   simp only at d1
   rw [List.all_eq_true.2 d1] at h
   have hr : r = [] := by simpa using h
   subst hr
   exact absurd hm (by decide)
theorem wholeL_some (l : List UInt8) (h : ∀ c ∈ (signedL l).2, isDig c = true) (hr : (signedL l).2 ≠ []) (hn : natOf (signedL l).2 ≤ 4294967296) :
  wholeT l = (if (signedL l).1 then -(natOf (signedL l).2 : Int) else natOf (signedL l).2, fitsB (if (signedL l).1 then -(natOf (signedL l).2 : Int) else natOf (signedL l).2)) := by
 have e1 : (signedL l).2.isEmpty = false := by simpa using hr
 have e2 : (signedL l).2.all isDig = true := List.all_eq_true.2 h
 have e3 : satOf (signedL l).2 = natOf (signedL l).2 := by rw [satOf_eq]; omega
 unfold wholeT
 rw [e1, e2, if_neg (by decide), e3]
 rfl
theorem wholeL_great (l : List UInt8) (hn : 4294967296 < natOf (signedL l).2) : (wholeT l).2 = false := by
  have e3 : 4294967296 < satOf (signedL l).2 := by rw [satOf_eq]; omega
  unfold wholeT
  split
  · rfl
  · simp only
    generalize satOf (signedL l).2 = N at *
    split
    · have : decide (-2147483648 ≤ -(N : Int)) = false := decide_eq_false (by omega)
      rw [this]; rfl
    · have : decide ((N : Int) ≤ 2147483647) = false := decide_eq_false (by omega)
      rw [this, Bool.and_false]
set_option maxRecDepth 100000 in
set_option maxHeartbeats 2000000 in
theorem ref_whole (l : List UInt8) (w : World) (hl : l.length ≤ 1000) :
    Calls Tryz.prog 176 #[.string (bs l)] w fun e w' => (∃ v : Int, e = .returned (.tuple #[.int .i64 v, .bool (wholeT l).2]) ∧ ((wholeT l).2 = true → v = (wholeT l).1)) ∧ Below w.heap.size w w' := by
  have hP := fun w => ref_plain l w (by omega)
  have hlen := signedL_len l
  cases ho : (signedL l).2.isEmpty || !(signedL l).2.all isDig with
  | true =>
    have hW : wholeT l = (0, false) := by unfold wholeT; rw [ho]; rfl
    rw [hW]
    obtain h | h := plainR_other (signedL l).2 ho
    all_goals
      generalize signedL l = sr at *
      generalize plainR sr.2 = q at *
      obtain ⟨m, r⟩ := sr
      obtain ⟨D, a, g, o⟩ := q
      simp only at h hP
      subst h
    · go_enter func176, ntmps176
      go_wp2_with (go_at_call 173; go_must (refine (hP _).mono ?_); rintro e w1 ⟨rfl, hb1⟩)
      go_ret2
      exact ⟨⟨0, rfl, fun _ => rfl⟩, hb1⟩
    · cases o
      all_goals
        go_enter func176, ntmps176
        go_wp2_with (go_at_call 173; go_must (refine (hP _).mono ?_); rintro e w1 ⟨rfl, hb1⟩)
        go_ret2
        exact ⟨⟨0, rfl, fun _ => rfl⟩, hb1⟩
  | false =>
    simp only [Bool.or_eq_false_iff, Bool.not_eq_false', List.isEmpty_eq_false_iff] at ho
    have hdig : ∀ c ∈ (signedL l).2, isDig c = true := List.all_eq_true.1 ho.2
    rw [plainR_whole _ hdig ho.1] at hP
    have hWs := wholeL_some l hdig ho.1
    have hWg := wholeL_great l
    clear ho
    generalize wholeT l = WL at *
    generalize signedL l = sr at *
    obtain ⟨m, r⟩ := sr
    simp only at hP hWs hWg hdig hlen
    have hs := bs_size r
    have HWs := hid hWs; have HWg := hid hWg; have Hdig := hid hdig; clear hWs hWg hdig
    go_enter func176, ntmps176
    go_wp2_with (go_at_call 173; go_must (refine (hP _).mono ?_); rintro e w1 ⟨rfl, hb1⟩)
    go_loop [9, 10] (fun n i => ∃ (k N : Nat), k ≤ r.length ∧ i = .int .i64 k ∧ n = .int .i64 N ∧ N = natOf (r.take k) ∧ Hid (N ≤ 4294967296)) (fun _ i => r.length - (intOf i).toNat)
    case atStart => exact ⟨0, 0, Nat.zero_le _, rfl, rfl, rfl, hid (by decide)⟩
    case round =>
      obtain ⟨k, N, hk, rfl, rfl, hN, hle⟩ := hrel
      by_cases hkl : k < r.length
      · have hstep := natOf_take r k hkl
        have hd := isDig_bounds (Hdig.out r[k] (by simp))
        rw [← hN] at hstep
        obtain ⟨c, hc⟩ : ∃ c, c = r[k] := ⟨_, rfl⟩
        have hget : ∀ h, (bs r)[k]'h = c := fun _ => hc.symm
        rw [← hc] at hstep hd
        have hN2 : 10 * N ≤ 42949672960 := by have := hle.out; omega
        have hmono := natOf_take_le r (k + 1)
        obtain ⟨M, hM⟩ : ∃ M, M = natOf (r.take (k + 1)) := ⟨_, rfl⟩
        rw [← hM] at hstep hmono
        have Hstep := hid hstep; have HM := hid hM; have Hmono := hid hmono; have HN := hid hN
        clear hstep hM hmono hN hc
        by_cases hbig : 4294967296 < M
        · have hd2 : decide ((4294967296 : Int) < (N : Int) * 10 + ((c.toNat : Int) - 48)) = true := decide_eq_true (by have := Hstep.out; omega)
          have hd3 : (4294967296 : Int) < (N : Int) * 10 + ((c.toNat : Int) - 48) := by have := Hstep.out; omega
          have Hbig := hid hbig; clear hbig
          go_wp2
          go_ret2
          have hf := HWg.out (Nat.lt_of_lt_of_le Hbig.out Hmono.out)
          exact ⟨⟨0, by rw [hf]; rfl, fun h => by rw [hf] at h; cases h⟩, hb1⟩
        · have hd2 : decide ((4294967296 : Int) < (N : Int) * 10 + ((c.toNat : Int) - 48)) = false := decide_eq_false (by have := Hstep.out; omega)
          have hd3 : ¬ ((4294967296 : Int) < (N : Int) * 10 + ((c.toNat : Int) - 48)) := by have := Hstep.out; omega
          have Hbig := hid hbig; clear hbig
          go_wp2
          go_round
          case rel => exact ⟨k + 1, M, by omega, by go_num, by rw [Hstep.out]; go_num, HM.out, hid (by have := Hbig.out; omega)⟩
          case measure => simp [intOf]; omega
      · obtain rfl : k = r.length := by omega
        rw [List.take_length] at hN
        have hws := HWs.out (hN ▸ hle.out)
        have HN := hid hN; clear hN
        have hSm := fun n w => ref_Small n w
        have hNb := hle.out
        have Hws := hid hws; clear hws HWs HWg Hdig
        cases m
        · go_wp2_with (go_at_call 219; go_must (refine (hSm _ _).mono ?_); rintro e w2 ⟨rfl, rfl⟩)
          go_ret2
          exact ⟨⟨(N : Int), by rw [Hws.out, ← HN.out]; rfl, fun _ => by rw [Hws.out, ← HN.out]; rfl⟩, hb1⟩
        · go_wp2_with (go_at_call 219; go_must (refine (hSm _ _).mono ?_); rintro e w2 ⟨rfl, rfl⟩)
          go_ret2
          exact ⟨⟨-(N : Int), by rw [Hws.out, ← HN.out]; rfl, fun _ => by rw [Hws.out, ← HN.out]; rfl⟩, hb1⟩
end
section
theorem digN_split (A B : List UInt8) (x : UInt8) (hA : ∀ c ∈ A, isDig c = true) (hx : isDig x = false) : digN (A ++ x :: B) = A.length := by
 induction A with
 | nil => show digN (x :: B) = 0; rw [digN_cons, hx]; rfl
 | cons c A ih =>
  show digN (c :: (A ++ x :: B)) = _
  rw [digN_cons, hA c (by simp), if_pos rfl, ih fun d hd => hA d (by simp [hd])]
  simp
theorem cutC_join (x : UInt8) (l : List UInt8) (h : (cutC x l).2.2 = true) : l = (cutC x l).1 ++ x :: (cutC x l).2.1 := by
 induction l with
 | nil => simp [cutC] at h
 | cons c r ih =>
  unfold cutC at h ⊢
  by_cases hc : c = x
  ·
   simp only [hc, if_true]; rfl
  ·
   simp only [hc, if_false] at h ⊢
   show c :: r = c :: ((cutC x r).1 ++ x :: (cutC x r).2.1)
   rw [← ih h]
theorem at_behind (A B : List UInt8) (x : UInt8) (k : Nat) (hk : k < B.length) (h : A.length + 1 + k < (A ++ x :: B).length) : (A ++ x :: B)[A.length + 1 + k]'h = B[k] := by
 rw [List.getElem_append_right (by omega)]
 have e : A.length + 1 + k - A.length = k + 1 := by omega
 simp [e]
theorem radixOk_split (l : List UInt8) (h : radixOk l = true) : ∃ A B, l = A ++ 35 :: B ∧ cutC 35 l = (A, B, true) ∧ A ≠ [] ∧ A.length ≤ 2 ∧ (∀ c ∈ A, isDig c = true) ∧ B ≠ [] := by
 unfold radixOk at h
 simp only [Bool.and_eq_true, decide_eq_true_eq, Bool.not_eq_true', List.isEmpty_eq_false_iff] at h
 obtain ⟨⟨⟨⟨h1, h2⟩, h3⟩, h4⟩, h5⟩ := h
 have hj := cutC_join 35 l h1
 exact ⟨_, _, hj, by rw [← h1], h2, h3, List.all_eq_true.1 h4, h5⟩
theorem radixOk_not (l : List UInt8) (h : radixOk l = false) (h1 : 1 ≤ digN l) (h2 : digN l ≤ 2) (h3 : digN l + 1 < l.length) : ∀ hh : digN l < l.length, l[digN l]'hh ≠ 35 := by
 intro hh he
 have hd : ∀ c ∈ l.take (digN l), isDig c = true := List.all_eq_true.1 (digN_take l)
 have hj : l = l.take (digN l) ++ 35 :: l.drop (digN l + 1) := by
  conv => lhs; rw [← List.take_append_drop (digN l) l, List.drop_eq_getElem_cons hh, he]
 have hlen : (l.take (digN l)).length = digN l := by simp; omega
 have hB : l.drop (digN l + 1) ≠ [] := by
  intro e
  have := congrArg List.length e
  simp at this; omega
 have hA : l.take (digN l) ≠ [] := by
  intro e
  have := congrArg List.length e
  rw [hlen] at this
  simp at this; omega
 have hc : cutC 35 l = (l.take (digN l), l.drop (digN l + 1), true) := by
  conv => lhs; rw [hj]
  exact cutC_yes 35 _ _ fun hm => absurd (hd 35 hm) (by decide)
 have : radixOk l = true := by
  unfold radixOk
  rw [hc]
  simp only [Bool.and_eq_true, decide_eq_true_eq, Bool.not_eq_true', List.isEmpty_eq_false_iff]
  exact ⟨⟨⟨⟨trivial, hA⟩, by omega⟩, List.all_eq_true.2 hd⟩, hB⟩
 rw [h] at this
 cases this
set_option maxRecDepth 100000 in
theorem ref_Token_long (l : List UInt8) (w : World) (hl : 64 < l.length) :
  Calls Tryz.prog 118 #[.string (bs l)] w fun e w' => e = .returned tokNone.val ∧ Below w.heap.size w w' := by
 have hs := bs_size l
 go_enter func118, ntmps118
 go_wp2_with fail
 exact bodyPost_ret (v := tokNone.val) (by simp [results, Tryz.results118, go_sem, TokR.val, tokNone]) rfl ⟨rfl, balloc (Below.refl _ _)⟩
set_option maxRecDepth 100000 in
set_option maxHeartbeats 8000000 in
theorem ref_Token_radix1 (x : UInt8) (B : List UInt8) (w : World) (hl : B.length + 2 ≤ 64) (hB : B ≠ []) (hx : isDig x = true) :
    Calls Tryz.prog 118 #[.string (bs ([x] ++ 35 :: B))] w fun e w' => e = .returned (radixV [x] B).val ∧ Below w.heap.size w w' := by
  obtain ⟨s, hS⟩ : ∃ s, s = bs ([x] ++ 35 :: B) := ⟨_, rfl⟩
  have hBl : 1 ≤ B.length := List.length_pos_iff.2 hB
  have hs : s.size = B.length + 2 := by rw [hS, bs_size]; simp
  have hat : ∀ h, s[1]'h = 35 := by subst hS; intro h; rfl
  have h0 : ∀ h, s[0]'h = x := by subst hS; intro h; rfl
  have hBk : ∀ k (hk : k < B.length) h, s[2 + k]'h = B[k] := by
    subst hS; intro k hk h
    exact at_behind [x] B 35 k hk _
  have hD : ∀ w, Calls Tryz.prog 80 #[.string s] w fun e w' => e = .returned (.int .i64 1) ∧ w = w' := by
    intro w
    have h := ref_Digits ([x] ++ 35 :: B) w (by simp; omega)
    rw [digN_split [x] B 35 (by simp; exact hx) (by decide), ← hS] at h
    exact h
  have hbx := isDig_bounds hx
  rw [← hS]
  obtain ⟨N, hN⟩ : ∃ N, natOf [x] = N := ⟨_, rfl⟩
  have hN2 : x.toNat - 48 = N := by rw [← hN]; simp [natOf]
  have hV : radixV [x] B = if N < 2 ∨ 36 < N then tokNone else radixRes (radixLoop N B 0 false) := by unfold radixV; rw [hN]
  generalize radixV [x] B = V at *
  have HV := hid hV; have HBk := hid hBk; have HN2 := hid hN2
  clear hV hBk hS hN hB hx  hN2
  obtain ⟨gd, hgd⟩ : ∃ gd : Bool, gd = (decide (2 ≤ N) && decide (N ≤ 36)) := ⟨_, rfl⟩
  have Hgd := hid hgd; clear hgd
  go_enter func118, ntmps118
  go_upto_region 8 with (go_at_call 80; go_must (refine (hD _).mono ?_); rintro e w1 ⟨rfl, rfl⟩)
  go_cut [6, 7] (fun s6 s7 wx => s6 = .int .i64 (N : Int) ∧ s7 = .bool gd ∧ wx = w.alloc (.cells #[.int .i64 0, .int .i64 0, .string ⟨#[]⟩] 143))
  case first =>
    have hNx : (x.toNat : Int) - 48 = (N : Int) := by have := HN2.out; omega
    by_cases ha : 2 ≤ N
    · by_cases hb : N ≤ 36
      · have ha2 : (2 : Int) ≤ (x.toNat : Int) - 48 := by omega
        have hb2 : (x.toNat : Int) - 48 ≤ 36 := by omega
        have HNx := hid hNx; clear hNx
        go_wp2
        go_meet
        exact ⟨by rw [← HNx.out], by rw [Hgd.out, decide_eq_true ha, decide_eq_true hb]; rfl, rfl⟩
      · have ha2 : (2 : Int) ≤ (x.toNat : Int) - 48 := by omega
        have hb2 : 36 < (x.toNat : Int) - 48 := by omega
        have HNx := hid hNx; clear hNx
        go_wp2
        go_meet
        exact ⟨by rw [← HNx.out], by rw [Hgd.out, decide_eq_true ha, decide_eq_false hb]; exact congrArg Value.bool (decide_eq_false (by omega)), rfl⟩
    · have ha2 : (x.toNat : Int) - 48 < 2 := by omega
      have HNx := hid hNx; clear hNx
      go_wp2
      go_meet
      exact ⟨by rw [← HNx.out], by rw [Hgd.out, decide_eq_false ha]; rfl, rfl⟩
  case rest =>
    obtain ⟨rfl, rfl, rfl⟩ := hcut
    clear hD hat h0  hbx HN2
    have hN99 : gd = true → 2 ≤ N ∧ N ≤ 36 := fun h => by rw [Hgd.out] at h; simpa using h
    have hstart : gd = true → V = radixRes (radixLoop N (B.drop 0) 0 false) := fun h => by
      have := hN99 h
      rw [HV.out, if_neg (by omega)]; rfl
    have hstart2 : gd = false → V = tokNone := fun h => by
      rw [HV.out, if_pos]
      rw [Hgd.out] at h
      simp only [Bool.and_eq_false_iff, decide_eq_false_iff_not] at h
      omega
    have HN99 := hid hN99; have Hstart := hid hstart; have Hstart2 := hid hstart2
    clear HV hN99 hstart hstart2 Hgd
    go_wp2
    go_loop [7, 8, 9, 10, 11] (fun g n o i _ => ∃ (k n0 : Nat) (ov gk : Bool), k ≤ B.length ∧ i = .int .i64 ((2 + k : Nat) : Int) ∧ n = .int .i64 n0 ∧ o = .bool ov ∧ g = .bool gk ∧ Hid (n0 < 4294967296) ∧ Hid (gk = true → gd = true) ∧ Hid (gk = true → V = radixRes (radixLoop N (B.drop k) n0 ov)) ∧ Hid (gk = false → V = tokNone)) (fun _ _ _ i _ => B.length + 2 - (intOf i).toNat)
    case atStart => exact ⟨0, 0, false, gd, Nat.zero_le _, rfl, rfl, rfl, rfl, hid (by decide), hid id, Hstart, Hstart2⟩
    case round =>
      obtain ⟨k, n0, ov, gk, hk, rfl, rfl, rfl, rfl, Hn0, Hgg, Hyes, Hno⟩ := hrel
      cases gk with
      | false =>
        have hv := Hno.out rfl
        have HV := hid hv; clear hv Hyes Hno Hgg
        go_wp2
        all_goals exact bodyPost_ret (v := tokNone.val) (by simp [results, Tryz.results118, go_sem, TokR.val, tokNone]) rfl ⟨by rw [HV.out], balloc (Below.refl _ _)⟩
      | true =>
        have hgt := Hgg.out rfl
        have hNb := HN99.out hgt
        clear Hgg
        obtain ⟨hNb1, hNb2⟩ := hNb
        have HV := hid (Hyes.out rfl); clear Hyes Hno
        have hnn := Hn0.out
        by_cases hkl : k < B.length
        · have hstep := radixLoop_drop N B k n0 ov hkl
          have hx := hexN_le B[k]
          have hH := fun w => ref_Hex B[k] w
          have hget := HBk.out k hkl
          generalize hexN B[k] = d at *
          generalize B[k] = c at *
          obtain ⟨P, hP⟩ : ∃ P : Nat, P = n0 * N := ⟨_, rfl⟩
          have hPi : (n0 : Int) * (N : Int) = (P : Int) := by rw [hP, Int.natCast_mul]
          have hP2 : P ≤ 154618822656 := by
            have h := Nat.mul_le_mul (show n0 ≤ 4294967296 by omega) hNb2
            rw [← hP] at h; omega
          rw [← hP] at hstep
          have Hstep := hid hstep; clear hstep hP
          by_cases hdN : N ≤ d
          · have hdN2 : decide ((d : Int) < (N : Int)) = false := decide_eq_false (by omega)
            by_cases hov : 4294967296 ≤ P + d
            · have hov2 : (4294967296 : Int) ≤ (P : Int) + (d : Int) := by omega
              have Hov := hid hov; clear hov
              go_wp2_with (go_at_call 153; go_must (refine (hH _).mono ?_); rintro e w5 ⟨rfl, rfl⟩)
              go_round
              case rel => exact ⟨k + 1, 0, true, false, by omega, by go_num, rfl, rfl, congrArg Value.bool (decide_eq_false (by omega)), hid (by decide), hid (fun h => by cases h), hid (fun h => by cases h), hid (fun _ => by rw [HV.out, Hstep.out, if_pos hdN]; rfl)⟩
              case measure => simp [intOf]; omega
            · have hov2 : decide ((4294967296 : Int) ≤ (P : Int) + (d : Int)) = false := decide_eq_false (by omega)
              have HPd := hid (show P + d < 4294967296 by omega)
              clear hov
              go_wp2_with (go_at_call 153; go_must (refine (hH _).mono ?_); rintro e w5 ⟨rfl, rfl⟩)
              go_round
              case rel => exact ⟨k + 1, P + d, ov, false, by omega, by go_num, by go_num, rfl, congrArg Value.bool (decide_eq_false (by omega)), HPd, hid (fun h => by cases h), hid (fun h => by cases h), hid (fun _ => by rw [HV.out, Hstep.out, if_pos hdN]; rfl)⟩
              case measure => simp [intOf]; omega
          · by_cases hov : 4294967296 ≤ P + d
            · have hov2 : (4294967296 : Int) ≤ (P : Int) + (d : Int) := by omega
              have Hov := hid hov; clear hov
              go_wp2_with (go_at_call 153; go_must (refine (hH _).mono ?_); rintro e w5 ⟨rfl, rfl⟩)
              go_round
              case rel => exact ⟨k + 1, 0, true, true, by omega, by go_num, rfl, rfl, congrArg Value.bool (decide_eq_true (by omega)), hid (by decide), hid (fun _ => hgt), hid (fun _ => by rw [HV.out, Hstep.out, if_neg hdN, if_pos Hov.out]), hid (fun h => by cases h)⟩
              case measure => simp [intOf]; omega
            · have hov2 : decide ((4294967296 : Int) ≤ (P : Int) + (d : Int)) = false := decide_eq_false (by omega)
              have HPd := hid (show P + d < 4294967296 by omega)
              have Hov := hid hov; clear hov
              go_wp2_with (go_at_call 153; go_must (refine (hH _).mono ?_); rintro e w5 ⟨rfl, rfl⟩)
              go_round
              case rel => exact ⟨k + 1, P + d, ov, true, by omega, by go_num, by go_num, rfl, congrArg Value.bool (decide_eq_true (by omega)), HPd, hid (fun _ => hgt), hid (fun _ => by rw [HV.out, Hstep.out, if_neg hdN, if_neg Hov.out]), hid (fun h => by cases h)⟩
              case measure => simp [intOf]; omega
        · obtain rfl : k = B.length := by omega
          have hend : V = radixRes (some (n0, ov)) := by rw [HV.out, List.drop_length]; rfl
          have Hend := hid hend; clear hend HV hkl HBk
          cases ov with
          | true =>
            go_wp2
            exact bodyPost_ret (v := tokGreat.val) (by simp [results, Tryz.results118, go_sem, TokR.val, tokGreat]) rfl ⟨by rw [Hend.out]; rfl, balloc (Below.refl _ _)⟩
          | false =>
            by_cases hbig : 2147483648 ≤ n0
            · have hbd : decide ((2147483648 : Int) ≤ (n0 : Int)) = true := decide_eq_true (by omega)
              have Hbig := hid hbig; clear hbig
              go_wp2
              exact bodyPost_ret (v := (tokInt ((n0 : Int) - 4294967296)).val) (by simp [results, Tryz.results118, go_sem, TokR.val, tokInt]) rfl ⟨by rw [Hend.out, radixRes]; simp only [Bool.false_eq_true, if_false, Hbig.out, if_true], balloc (Below.refl _ _)⟩
            · have hbd : decide ((2147483648 : Int) ≤ (n0 : Int)) = false := decide_eq_false (by omega)
              have Hbig := hid hbig; clear hbig
              go_wp2
              exact bodyPost_ret (v := (tokInt (n0 : Int)).val) (by simp [results, Tryz.results118, go_sem, TokR.val, tokInt]) rfl ⟨by rw [Hend.out, radixRes]; simp only [Bool.false_eq_true, if_false, Hbig.out], balloc (Below.refl _ _)⟩
set_option maxRecDepth 100000 in
set_option maxHeartbeats 8000000 in
theorem ref_Token_radix2 (x y : UInt8) (B : List UInt8) (w : World) (hl : B.length + 3 ≤ 64) (hB : B ≠ []) (hx : isDig x = true) (hy : isDig y = true) :
    Calls Tryz.prog 118 #[.string (bs ([x, y] ++ 35 :: B))] w fun e w' => e = .returned (radixV [x, y] B).val ∧ Below w.heap.size w w' := by
  obtain ⟨s, hS⟩ : ∃ s, s = bs ([x, y] ++ 35 :: B) := ⟨_, rfl⟩
  have hBl : 1 ≤ B.length := List.length_pos_iff.2 hB
  have hs : s.size = B.length + 3 := by rw [hS, bs_size]; simp
  have hat : ∀ h, s[2]'h = 35 := by subst hS; intro h; rfl
  have h0 : ∀ h, s[0]'h = x := by subst hS; intro h; rfl
  have h1 : ∀ h, s[1]'h = y := by subst hS; intro h; rfl
  have hBk : ∀ k (hk : k < B.length) h, s[3 + k]'h = B[k] := by
    subst hS; intro k hk h
    exact at_behind [x, y] B 35 k hk _
  have hD : ∀ w, Calls Tryz.prog 80 #[.string s] w fun e w' => e = .returned (.int .i64 2) ∧ w = w' := by
    intro w
    have h := ref_Digits ([x, y] ++ 35 :: B) w (by simp; omega)
    rw [digN_split [x, y] B 35 (by simp; exact ⟨hx, hy⟩) (by decide), ← hS] at h
    exact h
  have hbx := isDig_bounds hx
  have hby := isDig_bounds hy
  rw [← hS]
  obtain ⟨N, hN⟩ : ∃ N, natOf [x, y] = N := ⟨_, rfl⟩
  have hN2 : 10 * (x.toNat - 48) + (y.toNat - 48) = N := by rw [← hN]; simp [natOf]
  have hV : radixV [x, y] B = if N < 2 ∨ 36 < N then tokNone else radixRes (radixLoop N B 0 false) := by unfold radixV; rw [hN]
  generalize radixV [x, y] B = V at *
  have HV := hid hV; have HBk := hid hBk; have HN2 := hid hN2
  clear hV hBk hS hN hB hx hy hN2
  obtain ⟨gd, hgd⟩ : ∃ gd : Bool, gd = (decide (2 ≤ N) && decide (N ≤ 36)) := ⟨_, rfl⟩
  have Hgd := hid hgd; clear hgd
  go_enter func118, ntmps118
  go_upto_region 8 with (go_at_call 80; go_must (refine (hD _).mono ?_); rintro e w1 ⟨rfl, rfl⟩)
  go_cut [6, 7] (fun s6 s7 wx => s6 = .int .i64 (N : Int) ∧ s7 = .bool gd ∧ wx = w.alloc (.cells #[.int .i64 0, .int .i64 0, .string ⟨#[]⟩] 143))
  case first =>
    have hNx : ((x.toNat : Int) - 48) * 10 + ((y.toNat : Int) - 48) = (N : Int) := by have := HN2.out; omega
    by_cases ha : 2 ≤ N
    · by_cases hb : N ≤ 36
      · have ha2 : (2 : Int) ≤ ((x.toNat : Int) - 48) * 10 + ((y.toNat : Int) - 48) := by omega
        have hb2 : ((x.toNat : Int) - 48) * 10 + ((y.toNat : Int) - 48) ≤ 36 := by omega
        have HNx := hid hNx; clear hNx
        go_wp2
        go_meet
        exact ⟨by rw [← HNx.out], by rw [Hgd.out, decide_eq_true ha, decide_eq_true hb]; rfl, rfl⟩
      · have ha2 : (2 : Int) ≤ ((x.toNat : Int) - 48) * 10 + ((y.toNat : Int) - 48) := by omega
        have hb2 : 36 < ((x.toNat : Int) - 48) * 10 + ((y.toNat : Int) - 48) := by omega
        have HNx := hid hNx; clear hNx
        go_wp2
        go_meet
        exact ⟨by rw [← HNx.out], by rw [Hgd.out, decide_eq_true ha, decide_eq_false hb]; exact congrArg Value.bool (decide_eq_false (by omega)), rfl⟩
    · have ha2 : ((x.toNat : Int) - 48) * 10 + ((y.toNat : Int) - 48) < 2 := by omega
      have HNx := hid hNx; clear hNx
      go_wp2
      go_meet
      exact ⟨by rw [← HNx.out], by rw [Hgd.out, decide_eq_false ha]; rfl, rfl⟩
  case rest =>
    obtain ⟨rfl, rfl, rfl⟩ := hcut
    clear hD hat h0 h1 hby hbx HN2
    have hN99 : gd = true → 2 ≤ N ∧ N ≤ 36 := fun h => by rw [Hgd.out] at h; simpa using h
    have hstart : gd = true → V = radixRes (radixLoop N (B.drop 0) 0 false) := fun h => by
      have := hN99 h
      rw [HV.out, if_neg (by omega)]; rfl
    have hstart2 : gd = false → V = tokNone := fun h => by
      rw [HV.out, if_pos]
      rw [Hgd.out] at h
      simp only [Bool.and_eq_false_iff, decide_eq_false_iff_not] at h
      omega
    have HN99 := hid hN99; have Hstart := hid hstart; have Hstart2 := hid hstart2
    clear HV hN99 hstart hstart2 Hgd
    go_wp2
    go_loop [7, 8, 9, 10, 11] (fun g n o i _ => ∃ (k n0 : Nat) (ov gk : Bool), k ≤ B.length ∧ i = .int .i64 ((3 + k : Nat) : Int) ∧ n = .int .i64 n0 ∧ o = .bool ov ∧ g = .bool gk ∧ Hid (n0 < 4294967296) ∧ Hid (gk = true → gd = true) ∧ Hid (gk = true → V = radixRes (radixLoop N (B.drop k) n0 ov)) ∧ Hid (gk = false → V = tokNone)) (fun _ _ _ i _ => B.length + 3 - (intOf i).toNat)
    case atStart => exact ⟨0, 0, false, gd, Nat.zero_le _, rfl, rfl, rfl, rfl, hid (by decide), hid id, Hstart, Hstart2⟩
    case round =>
      obtain ⟨k, n0, ov, gk, hk, rfl, rfl, rfl, rfl, Hn0, Hgg, Hyes, Hno⟩ := hrel
      cases gk with
      | false =>
        have hv := Hno.out rfl
        have HV := hid hv; clear hv Hyes Hno Hgg
        go_wp2
        all_goals exact bodyPost_ret (v := tokNone.val) (by simp [results, Tryz.results118, go_sem, TokR.val, tokNone]) rfl ⟨by rw [HV.out], balloc (Below.refl _ _)⟩
      | true =>
        have hgt := Hgg.out rfl
        have hNb := HN99.out hgt
        clear Hgg
        obtain ⟨hNb1, hNb2⟩ := hNb
        have HV := hid (Hyes.out rfl); clear Hyes Hno
        have hnn := Hn0.out
        by_cases hkl : k < B.length
        · have hstep := radixLoop_drop N B k n0 ov hkl
          have hx := hexN_le B[k]
          have hH := fun w => ref_Hex B[k] w
          have hget := HBk.out k hkl
          generalize hexN B[k] = d at *
          generalize B[k] = c at *
          obtain ⟨P, hP⟩ : ∃ P : Nat, P = n0 * N := ⟨_, rfl⟩
          have hPi : (n0 : Int) * (N : Int) = (P : Int) := by rw [hP, Int.natCast_mul]
          have hP2 : P ≤ 154618822656 := by
            have h := Nat.mul_le_mul (show n0 ≤ 4294967296 by omega) hNb2
            rw [← hP] at h; omega
          rw [← hP] at hstep
          have Hstep := hid hstep; clear hstep hP
          by_cases hdN : N ≤ d
          · have hdN2 : decide ((d : Int) < (N : Int)) = false := decide_eq_false (by omega)
            by_cases hov : 4294967296 ≤ P + d
            · have hov2 : (4294967296 : Int) ≤ (P : Int) + (d : Int) := by omega
              have Hov := hid hov; clear hov
              go_wp2_with (go_at_call 153; go_must (refine (hH _).mono ?_); rintro e w5 ⟨rfl, rfl⟩)
              go_round
              case rel => exact ⟨k + 1, 0, true, false, by omega, by go_num, rfl, rfl, congrArg Value.bool (decide_eq_false (by omega)), hid (by decide), hid (fun h => by cases h), hid (fun h => by cases h), hid (fun _ => by rw [HV.out, Hstep.out, if_pos hdN]; rfl)⟩
              case measure => simp [intOf]; omega
            · have hov2 : decide ((4294967296 : Int) ≤ (P : Int) + (d : Int)) = false := decide_eq_false (by omega)
              have HPd := hid (show P + d < 4294967296 by omega)
              clear hov
              go_wp2_with (go_at_call 153; go_must (refine (hH _).mono ?_); rintro e w5 ⟨rfl, rfl⟩)
              go_round
              case rel => exact ⟨k + 1, P + d, ov, false, by omega, by go_num, by go_num, rfl, congrArg Value.bool (decide_eq_false (by omega)), HPd, hid (fun h => by cases h), hid (fun h => by cases h), hid (fun _ => by rw [HV.out, Hstep.out, if_pos hdN]; rfl)⟩
              case measure => simp [intOf]; omega
          · by_cases hov : 4294967296 ≤ P + d
            · have hov2 : (4294967296 : Int) ≤ (P : Int) + (d : Int) := by omega
              have Hov := hid hov; clear hov
              go_wp2_with (go_at_call 153; go_must (refine (hH _).mono ?_); rintro e w5 ⟨rfl, rfl⟩)
              go_round
              case rel => exact ⟨k + 1, 0, true, true, by omega, by go_num, rfl, rfl, congrArg Value.bool (decide_eq_true (by omega)), hid (by decide), hid (fun _ => hgt), hid (fun _ => by rw [HV.out, Hstep.out, if_neg hdN, if_pos Hov.out]), hid (fun h => by cases h)⟩
              case measure => simp [intOf]; omega
            · have hov2 : decide ((4294967296 : Int) ≤ (P : Int) + (d : Int)) = false := decide_eq_false (by omega)
              have HPd := hid (show P + d < 4294967296 by omega)
              have Hov := hid hov; clear hov
              go_wp2_with (go_at_call 153; go_must (refine (hH _).mono ?_); rintro e w5 ⟨rfl, rfl⟩)
              go_round
              case rel => exact ⟨k + 1, P + d, ov, true, by omega, by go_num, by go_num, rfl, congrArg Value.bool (decide_eq_true (by omega)), HPd, hid (fun _ => hgt), hid (fun _ => by rw [HV.out, Hstep.out, if_neg hdN, if_neg Hov.out]), hid (fun h => by cases h)⟩
              case measure => simp [intOf]; omega
        · obtain rfl : k = B.length := by omega
          have hend : V = radixRes (some (n0, ov)) := by rw [HV.out, List.drop_length]; rfl
          have Hend := hid hend; clear hend HV hkl HBk
          cases ov with
          | true =>
            go_wp2
            exact bodyPost_ret (v := tokGreat.val) (by simp [results, Tryz.results118, go_sem, TokR.val, tokGreat]) rfl ⟨by rw [Hend.out]; rfl, balloc (Below.refl _ _)⟩
          | false =>
            by_cases hbig : 2147483648 ≤ n0
            · have hbd : decide ((2147483648 : Int) ≤ (n0 : Int)) = true := decide_eq_true (by omega)
              have Hbig := hid hbig; clear hbig
              go_wp2
              exact bodyPost_ret (v := (tokInt ((n0 : Int) - 4294967296)).val) (by simp [results, Tryz.results118, go_sem, TokR.val, tokInt]) rfl ⟨by rw [Hend.out, radixRes]; simp only [Bool.false_eq_true, if_false, Hbig.out, if_true], balloc (Below.refl _ _)⟩
            · have hbd : decide ((2147483648 : Int) ≤ (n0 : Int)) = false := decide_eq_false (by omega)
              have Hbig := hid hbig; clear hbig
              go_wp2
              exact bodyPost_ret (v := (tokInt (n0 : Int)).val) (by simp [results, Tryz.results118, go_sem, TokR.val, tokInt]) rfl ⟨by rw [Hend.out, radixRes]; simp only [Bool.false_eq_true, if_false, Hbig.out], balloc (Below.refl _ _)⟩
end
section
theorem digN_iff (l : List UInt8) : digN l = l.length ↔ l.all isDig = true := by
 rw [digN_all, List.isEmpty_iff, List.drop_eq_nil_iff]
 have := digN_le l
 omega
theorem cutE_yes (B : List UInt8) (x : UInt8) (hx : isE x = true) : ∀ A : List UInt8, (∀ c ∈ A, isE c = false) → cutE (A ++ x :: B) = (A, B, true)
 | [], _ => by simp [cutE, hx]
 | c :: A, h => by
  have ih := cutE_yes B x hx A fun d hd => h d (by simp [hd])
  simp [cutE, ih, h c (by simp)]
theorem cutE_no : ∀ l : List UInt8, (∀ c ∈ l, isE c = false) → cutE l = (l, [], false)
 | [], _ => rfl
 | c :: l, h => by
  have ih := cutE_no l fun d hd => h d (by simp [hd])
  simp [cutE, ih, h c (by simp)]
theorem cutE_at (l : List UInt8) (k : Nat) (hk : k < l.length) (h : ∀ c ∈ l.take k, isE c = false) (hx : isE l[k] = true) : (cutE l).1.length = k := by
 have hj : l = l.take k ++ l[k] :: l.drop (k + 1) := by
  conv => lhs; rw [← List.take_append_drop k l, List.drop_eq_getElem_cons hk]
 have e : cutE l = (l.take k, l.drop (k + 1), true) := by
  conv => lhs; rw [hj]
  exact cutE_yes _ _ hx _ h
 rw [e]; simp; omega
theorem isE_take (l : List UInt8) (k : Nat) (hk : k < l.length) (h : ∀ c ∈ l.take k, isE c = false) (hx : isE l[k] = false) : ∀ c ∈ l.take (k + 1), isE c = false := by
 intro c hc
 rw [List.take_succ_eq_append_getElem hk, List.mem_append] at hc
 rcases hc with hc | hc
 ·
  exact h c hc
 ·
  simp only [List.mem_singleton] at hc; rw [hc]; exact hx
/-- does a text begin with a sign -/
def signQ : List UInt8 → Bool
 | [] => false
 | c :: _ => c == 45 || c == 43
/-- ref.Token's real number -/
def realR (l : List UInt8) : TokR :=
 if (cutE l).2.2 then
  (if (powerL (cutE l).2.1).2 then finL (signedL (cutE l).1).1 (signedL (cutE l).1).2 (powerL (cutE l).2.1).1 else tokNone)
 else finL (signedL (cutE l).1).1 (signedL (cutE l).1).2 0
theorem signed_cutE (l : List UInt8) : signedL (cutE l).1 = ((signedL l).1, (cutE (signedL l).2).1) ∧ (cutE l).2 = (cutE (signedL l).2).2 := by
  cases l with
  | nil => exact ⟨rfl, rfl⟩
  | cons c r =>
    by_cases hE : isE c = true
    · have h1 : c ≠ 45 := by rintro rfl; exact absurd hE (by decide)
      have h2 : c ≠ 43 := by rintro rfl; exact absurd hE (by decide)
      simp [signedL, cutE, hE, h1, h2]
    · have hE' : isE c = false := by simpa using hE
      by_cases h1 : c = 45
      · subst h1; simp [signedL, cutE, hE']
      · by_cases h2 : c = 43
        · subst h2; simp [signedL, cutE, hE']
        · simp [signedL, cutE, hE', h1, h2]
theorem realR_eq (l : List UInt8) : realR l = realL2 l := by
 obtain ⟨h1, h2⟩ := signed_cutE l
 unfold realR realL2
 rw [h1, h2]
 cases hf : (cutE (signedL l).2).2.2 with
 | true => rfl
 | false =>
  simp only [Bool.false_eq_true, if_false]
  rw [(cutE_no_join _ hf).1]
theorem mantOk_all (l : List UInt8) (h : mantOk l = true) : ∀ c ∈ l, isDig c = true ∨ c = 46 := by
 obtain ⟨h1, h2⟩ := mantOk_digits l h
 intro c hc
 by_cases hd : 46 ∈ l
 ·
  obtain ⟨A, B, rfl, hA⟩ := split_at 46 l hd
  rw [cutDot_yes B A hA] at h1 h2
  rcases List.mem_append.1 hc with hc | hc
  ·
   exact Or.inl (h1 c hc)
  ·
   rcases List.mem_cons.1 hc with hc | hc
   ·
    exact Or.inr hc
   ·
    exact Or.inl (h2 c hc)
 ·
  rw [cutDot_no l hd] at h1
  exact Or.inl (h1 c hc)
theorem dig_notE (c : UInt8) (h : isDig c = true) : isE c = false := by
 obtain ⟨h1, h2⟩ := isDig_bounds h
 cases he : isE c with
 | false => rfl
 | true =>
  simp only [isE, Bool.or_eq_true, beq_iff_eq] at he
  rcases he with rfl | rfl <;> simp at h1 h2
theorem signedL_dig (c : UInt8) (r : List UInt8) (h : isDig c = true) : signedL (c :: r) = (false, c :: r) := by
 have h1 : c ≠ 45 := by rintro rfl; exact absurd h (by decide)
 have h2 : c ≠ 43 := by rintro rfl; exact absurd h (by decide)
 simp [signedL, h1, h2]
/-- the token at a text with a base -/
theorem tokenL_radix (l A B : List UInt8) (hl : l.length ≤ 64) (h : radixOk l = true) (hc : cutC 35 l = (A, B, true)) : tokenL l = radixV A B := by
  have hr : radixL l = radixV A B := by unfold radixL; rw [h, if_pos rfl, hc]
  obtain ⟨A', B', hs, hc', hA0, -, hdig, -⟩ := radixOk_split l h
  rw [hc'] at hc
  simp only [Prod.mk.injEq, and_true] at hc
  obtain ⟨rfl, rfl⟩ := hc
  cases ho : (radixL l).ok with
  | true => unfold tokenL; rw [if_neg (by omega), ho, if_pos rfl, hr]
  | false =>
    have hn : radixV A' B' = tokNone := by
      rw [hr] at ho
      unfold radixV at ho ⊢
      split
      · rfl
      · next hb =>
        rw [if_neg hb] at ho
        cases hx : radixLoop (natOf A') B' 0 false with
        | none => rfl
        | some q =>
          rw [hx] at ho
          obtain ⟨n, ov⟩ := q
          unfold radixRes at ho
          simp only at ho
          split at ho <;> cases ho
    have hsg : signedL l = (false, l) := by
      rw [hs]
      cases A' with
      | nil => exact absurd rfl hA0
      | cons c A' => exact signedL_dig c _ (hdig c (by simp))
    have hmem : (35 : UInt8) ∈ l := by rw [hs]; simp
    have hw : (wholeT l).2 = false := by
      have : l.all isDig = false := by
        cases hh : l.all isDig with
        | false => rfl
        | true => exact absurd (List.all_eq_true.1 hh 35 hmem) (by decide)
      unfold wholeT
      rw [hsg]
      simp [this]
    have hcE : ∃ p, (cutE l).1 = A' ++ 35 :: p := by
      rw [hs]
      clear hs hmem hsg hw hr h hc' ho hn
      induction A' with
      | nil => exact ⟨(cutE B').1, by simp [cutE, isE]⟩
      | cons c A' ih =>
        by_cases hA : A' = []
        · subst hA
          refine ⟨(cutE B').1, ?_⟩
          have := dig_notE c (hdig c (by simp))
          have h35 : isE 35 = false := by decide
          simp [cutE, this, h35]
        · obtain ⟨p, hp⟩ := ih hA fun d hd => hdig d (by simp [hd])
          refine ⟨p, ?_⟩
          have := dig_notE c (hdig c (by simp))
          simp [cutE, this, hp]
    obtain ⟨p, hp⟩ := hcE
    have hm : ∀ x, (35 : UInt8) ∈ x → mantOk x = false := by
      intro x hx
      cases hh : mantOk x with
      | false => rfl
      | true => rcases mantOk_all x hh 35 hx with h | h <;> exact absurd h (by decide)
    have hreal : realL2 l = tokNone := by
      unfold realL2
      rw [hsg]
      simp only
      have h1 := hm (cutE l).1 (by rw [hp]; simp)
      have h2 := hm l hmem
      split
      · split
        · unfold finL; rw [h1]; rfl
        · rfl
      · unfold finL; rw [h2]; rfl
    unfold tokenL
    rw [if_neg (by omega), ho, hw, hreal, hn]
    rfl
theorem tokenL_plain (l : List UInt8) (hl : l.length ≤ 64) (h : radixOk l = false) : tokenL l = if (wholeT l).2 then tokInt (wholeT l).1 else realR l := by
 have hr : (radixL l).ok = false := by unfold radixL; rw [h]; rfl
 unfold tokenL
 rw [if_neg (by omega), hr, realR_eq]
 rfl
theorem tokenL_long (l : List UInt8) (hl : 64 < l.length) : tokenL l = tokNone := by unfold tokenL; rw [if_pos hl]
end
section
def blankB (c : UInt8) : Bool := c == 0 || c == 9 || c == 10 || c == 12 || c == 13 || c == 32
def endB (c : UInt8) : Bool := c == 10 || c == 12 || c == 13
def delimB (c : UInt8) : Bool := c == 40 || c == 41 || c == 60 || c == 62 || c == 91 || c == 93 || c == 123 || c == 125 || c == 47 || c == 37
def regB (c : UInt8) : Bool := !blankB c && !delimB c
theorem endB_blank {c : UInt8} (h : endB c = true) : blankB c = true := by
 simp only [endB, Bool.or_eq_true, beq_iff_eq] at h
 rcases h with (rfl | rfl) | rfl <;> rfl
/-- what is behind blanks and comments; true: in a comment -/
def skipS : Bool → List UInt8 → List UInt8
 | _, [] => []
 | false, c :: r => if c = 37 then skipS true r else if blankB c then skipS false r else c :: r
 | true, c :: r => if endB c then skipS false (r) else skipS true r
theorem skipS_len : ∀ (l : List UInt8) (m : Bool), (skipS m l).length ≤ l.length
 | [], m => by cases m <;> simp [skipS]
 | c :: r, false => by
  have h1 := skipS_len r true; have h2 := skipS_len r false
  simp only [skipS]; split
  ·
   simp; omega
  ·
   split <;> simp <;> omega
 | c :: r, true => by
  have h1 := skipS_len r true; have h2 := skipS_len r false
  simp only [skipS]; split <;> simp <;> omega
theorem skipS_suffix : ∀ (l : List UInt8) (m : Bool), ∃ k, k ≤ l.length ∧ skipS m l = l.drop k
 | [], m => ⟨0, Nat.le_refl _, by cases m <;> rfl⟩
 | c :: r, false => by
  obtain ⟨k1, a1, b1⟩ := skipS_suffix r true; obtain ⟨k2, a2, b2⟩ := skipS_suffix r false
  simp only [skipS]; split
  ·
   exact ⟨k1 + 1, by simp; omega, by rw [b1]; rfl⟩
  ·
   split
   ·
    exact ⟨k2 + 1, by simp; omega, by rw [b2]; rfl⟩
   ·
    exact ⟨0, Nat.zero_le _, rfl⟩
 | c :: r, true => by
  obtain ⟨k1, a1, b1⟩ := skipS_suffix r true; obtain ⟨k2, a2, b2⟩ := skipS_suffix r false
  simp only [skipS]; split
  ·
   exact ⟨k2 + 1, by simp; omega, by rw [b2]; rfl⟩
  ·
   exact ⟨k1 + 1, by simp; omega, by rw [b1]; rfl⟩
/-- without a line feed ahead -/
def dropLF : List UInt8 → List UInt8
 | c :: r => if c = 10 then r else c :: r
 | [] => []
theorem dropLF_len (l : List UInt8) : (dropLF l).length ≤ l.length := by
 cases l with
 | nil => simp [dropLF]
 | cons c r => simp only [dropLF]; split <;> simp
def octB (c : UInt8) : Bool := decide (48 ≤ c.toNat) && decide (c.toNat ≤ 55)
/-- up to k more octal digits: the number, what is left -/
def octS : Nat → Nat → List UInt8 → Nat × List UInt8
 | 0, n, l => (n, l)
 | _ + 1, n, [] => (n, [])
 | k + 1, n, c :: r => if octB c then octS k (8 * n + (c.toNat - 48)) r else (n, c :: r)
theorem octS_len : ∀ (k n : Nat) (l : List UInt8), (octS k n l).2.length ≤ l.length
 | 0, n, l => Nat.le_refl _
 | _ + 1, n, [] => Nat.le_refl _
 | k + 1, n, c :: r => by
  have := octS_len k (8 * n + (c.toNat - 48)) r
  simp only [octS]; split <;> simp <;> omega
/-- what stands behind a \ and the byte c: the bytes, what is left -/
def escS (c : UInt8) (r : List UInt8) : List UInt8 × List UInt8 :=
 if c = 110 then ([10], r) else if c = 114 then ([13], r) else if c = 116 then ([9], r) else if c = 98 then ([8], r) else if c = 102 then ([12], r)
 else if c = 10 then ([], r) else if c = 13 then ([], dropLF r)
 else if octB c then ([ch ((octS 2 (c.toNat - 48) r).1 % 256 : Nat)], (octS 2 (c.toNat - 48) r).2) else ([c], r)
theorem escS_len (c : UInt8) (r : List UInt8) : (escS c r).2.length ≤ r.length := by
 have h1 := dropLF_len r
 have h2 := octS_len 2 (c.toNat - 48) r
 unfold escS
 repeat' split
 all_goals first | exact Nat.le_refl _ | assumption
/-- a string in round brackets -/
def roundS (d : Nat) (o : List UInt8) (l : List UInt8) : Option (List UInt8 × List UInt8) :=
 match l with
 | [] => none
 | c :: r =>
  if c = 40 then roundS (d + 1) (o ++ [c]) r
  else if c = 41 then (if d = 1 then some (o, r) else roundS (d - 1) (o ++ [c]) r)
  else if c = 92 then
   match r with
   | [] => none
   | e :: r' => roundS d (o ++ (escS e r').1) (escS e r').2
  else if c = 13 then roundS d (o ++ [10]) (dropLF r)
  else roundS d (o ++ [c]) r
termination_by l.length
decreasing_by
 all_goals simp_wf
 ·
  have := escS_len e r'; omega
 ·
  have := dropLF_len r; omega
/-- a hexadecimal digit, or none -/
def hexD (c : UInt8) : Option Nat := if hexN c < 16 then some (hexN c) else none
/-- a string in pointed brackets -/
def hexS : Option Nat → List UInt8 → List UInt8 → Option (List UInt8 × List UInt8)
 | _, _, [] => none
 | h, o, c :: r =>
  if blankB c then hexS h o r
  else if c = 62 then some (match h with | none => o | some x => o ++ [ch (x * 16 : Nat)], r)
  else match hexD c with
   | none => none
   | some d => match h with
    | none => hexS (some d) o r
    | some x => hexS none (o ++ [ch (x * 16 + d : Nat)]) r
/-- a token: its kind, number and text -/
structure TokV where
 kind : Int
 n : Int
 text : List UInt8
def TokV.val (t : TokV) : Value := .agg #[.int .i64 t.kind, .int .i64 t.n, .string (bs t.text)]
/-- a token and what is left, or an error's number -/
abbrev TokE := Except Int (TokV × List UInt8)
def textS (o : Option (List UInt8 × List UInt8)) : TokE :=
 match o with
 | none => .error 14
 | some (s, r) => if 65535 < s.length then .error 9 else .ok (⟨6, 0, s⟩, r)
def nameS (k : Int) (l : List UInt8) : TokE :=
 if 127 < (l.takeWhile regB).length then .error 9 else .ok (⟨k, 0, l.takeWhile regB⟩, l.dropWhile regB)
def angleS (c : UInt8) (r : List UInt8) : TokE :=
 match r with
 | d :: r' => if d = c then .ok (⟨3, 0, [c, c]⟩, r') else if c = 60 then textS (hexS none [] (d :: r')) else .error 14
 | [] => if c = 60 then textS (hexS none [] []) else .error 14
def slashS (r : List UInt8) : TokE :=
 match r with
 | d :: r' => if d = 47 then nameS 5 r' else nameS 4 (d :: r')
 | [] => nameS 4 []
def wordS (l : List UInt8) : TokE :=
 let t := tokenL (l.takeWhile regB)
 if t.e ≠ 0 then .error t.e else if t.ok then .ok (⟨t.kind, t.n, []⟩, l.dropWhile regB) else nameS 3 l
def tokS (l : List UInt8) : TokE :=
 match skipS false l with
 | [] => .ok (⟨0, 0, []⟩, [])
 | c :: r =>
  if c = 40 then textS (roundS 1 [] r)
  else if c = 41 then .error 14
  else if c = 60 ∨ c = 62 then angleS c r
  else if c = 123 then .ok (⟨7, 0, []⟩, r)
  else if c = 125 then .ok (⟨8, 0, []⟩, r)
  else if c = 91 ∨ c = 93 then .ok (⟨3, 0, [c]⟩, r)
  else if c = 47 then slashS r
  else wordS (c :: r)
end
end Go.Proofs.YtjghbcjnplcleaaGreatDoor
