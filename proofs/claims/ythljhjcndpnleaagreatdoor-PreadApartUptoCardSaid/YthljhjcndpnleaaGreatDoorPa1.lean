/-
  What the claim leans on, part 1: pruned and joined by my own tool out of the texts that stand in wip/ as templates.
-/
import Derived.WalkKit
import Derived.WalkSpells
import Derived.WalkLawsBesides
import Derived.Test.YthljhjcndpnleaaGreatDoorRows
import Derived.Shelf.Strings.Builder1
import Derived.Shelf.Strings.Builder2
import Derived.Shelf.Strings.Trim
import Derived.Shelf.Small.Utf8
import Derived.Shelf.Small.Strs
import Derived.Shelf.Strings.BuilderF
import Derived.Shelf.Strings.BuilderK
import Derived.Shelf.Strings.Builder2Cap
import Derived.Shelf.Strings.Search1
import Derived.Shelf.Strings.Search2
import Derived.Shelf.Strings.Cut
import Derived.Shelf.LaysM
import Derived.Shelf.Strings.Shaped
import Derived.Shelf.Strings.Prefix
import Derived.Shelf.Unicode.Decode
import Derived.Shelf.Strings.Runes
import Derived.Shelf.Strings.IndexAny
import Derived.Shelf.Strings.AsciiSet
import Derived.Shelf.Strings.IndexAnyAll
import Derived.Shelf.Bits.Mul64
import Derived.Shelf.Strings.Repeat
import Derived.Shelf.Unicode.DecodeSlow
import Derived.Shelf.Unicode.DecodeAny
import Derived.Shelf.Unicode.DecodeLast
import Derived.Shelf.Strings.BuilderCap
import Derived.Test.YthljhjcndpnleaaGreatDoorProg
import Derived.Shelf.Strings.SlTrimAscii
import Derived.Deep.QuietTactic
import Derived.BigQuiet
import Derived.Deep.DeepCutAuto
import Derived.StillTail
import Derived.Laws.BytesString
import Derived.Laws.Slices
import Derived.Carry
import Derived.ChangeSlices
import Derived.Lib.ConvBytes
import Derived.Laws.AppendOwn
import Derived.Laws.CopyRow
import Derived.Deep.MidRow
import Derived.Lib.SliceRun
import Derived.Recover
import Derived.Lib.AppendZerosOnto
import Derived.Laws.OwnMore
import Derived.Maps.OwnSet
import Derived.Stop.BytesEq
import Derived.OrdersHeld
import Derived.Lib.LastIndexLaws
import Derived.Deep.Slices
import Derived.ProofKit
import Derived.OpenShut
import Derived.Lib.FrozenHead
import Derived.Lib.AppendStr
import Derived.Test.YthljhjcndpnleaaGreatDoorCards
import Derived.Test.YthljhjcndpnleaaGreatDoorTie
import Derived.Deep.DeepHandedRow
import Derived.Lib.LaidTab
namespace Go.Proofs.YthljhjcndpnleaaGreatDoor
open Go.RowKit
open Go.Proofs.Tryz
section
theorem hid {p : Prop} (h : p) : Hid p := h
/-- a row of cells of one block, none of them frozen -/
def BRow (w : World) (b : Nat) (l : List Value) : Prop := ∀ j v, l[j]? = some v → w.cell? ⟨b, j, none⟩ = some v ∧ w.frozen? ⟨b, j, none⟩ = false
theorem BRow.set {w : World} {b : Nat} {l : List Value} (h : BRow w b l) (i : Nat) (v : Value) (hi : i < l.length) : BRow (w.setCell ⟨b, i, none⟩ v) b (l.set i v) := by
 intro j u hj
 rw [World.frozen?_setCell]
 by_cases e : i = j
 ·
  subst e
  rw [List.getElem?_set_self hi] at hj
  obtain rfl : v = u := by simpa using hj
  obtain ⟨h1, h2⟩ := h i l[i] (by simp [hi])
  exact ⟨World.cell?_setCell_same _ _ _ h1, h2⟩
 ·
  rw [List.getElem?_set_ne e] at hj
  obtain ⟨h1, h2⟩ := h j u hj
  rw [World.cell?_setCell_other _ _ _ _ (by intro h; simp at h)]
  exact ⟨h1, h2⟩
theorem BRow.below {w w' : World} {B b : Nat} {l : List Value} (h : BRow w b l) (hb : Below B w w') (hB : b < B) : BRow w' b l := by
 intro j u hj
 obtain ⟨h1, h2⟩ := h j u hj
 rw [hb.cell (p := ⟨b, j, none⟩) hB, hb.frozen (p := ⟨b, j, none⟩) hB]
 exact ⟨h1, h2⟩
/-- the cells of bytes -/
def byteVals (l : List UInt8) : List Value := l.map fun (c : UInt8) => Value.int .u8 (c.toNat : Int)
/-- one after the other -/
theorem btr {w w1 w2 : World} (h : Below w.heap.size w w1) (k : Below w1.heap.size w1 w2) : Below w.heap.size w w2 := h.trans (k.mono h.size)
theorem bdrewN (w : World) (q : Nat) : Below w.heap.size w (w.drewN q) := ⟨rfl, rfl, rfl, Nat.le_refl _, fun _ _ => rfl⟩
section
variable {P : Program}
theorem bytesRow_cell (w : World) (s : ByteArray) (cap : Nat) (e : TypeId) (hc : s.size ≤ cap) : BRow (w.drew.alloc (.cells (bytesRow s cap) e ((bytesRow s cap).size, (bytesRow s cap).size + 1))) w.heap.size (byteVals s.data.toList) := by
 intro j v hj
 have hj' : j < s.data.size := by
  rcases Nat.lt_or_ge j s.data.size with h | h
  ·
   exact h
  ·
   rw [List.getElem?_eq_none (by simpa [byteVals] using h)] at hj; cases hj
 have hsz : (bytesRow s cap).size = cap := by
  unfold bytesRow
  have e1 : s.data.size = s.size := rfl
  simp [e1]; omega
 constructor
 ·
  have h1 := World.cell?_alloc_mark w.drew (bytesRow s cap) e ((bytesRow s cap).size, (bytesRow s cap).size + 1) j
  have h2 := bytesRow_at s cap j hj'
  have e1 : w.drew.heap.size = w.heap.size := rfl
  rw [e1] at h1
  rw [h1, h2, ← hj]
  simp only [byteVals, List.getElem?_map, Array.getElem?_toList]
  rw [Array.getElem?_eq_getElem hj']; rfl
 ·
  have h1 := World.frozen?_alloc_mark w.drew (bytesRow s cap) e (bytesRow s cap).size ((bytesRow s cap).size + 1) j
  have e1 : w.drew.heap.size = w.heap.size := rfl
  rw [e1] at h1
  have e2 : s.data.size = s.size := rfl
  rw [h1, hsz]
  simp; omega
/-- []byte(s): a new row of bytes -/
theorem wpList_conv_bytes {ops : Array Oper} {rest : List Oper} {o : Oper} {a : Act} {Q : Exit → Act → World → Prop} {w : World} (hg : o.guard = none) (x : Operand) (ts tb te : TypeId) (hop : o.op = .convert ts tb x)
  (h1 : P.underlying ts = some .string) (h2 : P.underlying tb = some (.slice te)) (h3 : P.underlying te = some (.int .u8)) (s : ByteArray) (hx : a.eval x = .string s)
  (h : ∀ cap w', s.size ≤ cap → BRow w' w.heap.size (byteVals s.data.toList) → w.grownBy w' none → w'.heap.size = w.heap.size + 1 →
   wpList P ops Q rest (a.put o.dst (.slice (some ⟨w.heap.size, 0, none⟩) s.size cap)) w') : wpList P ops Q (o :: rest) a w := by
 refine wpList_plain hg fun K hK => ?_
 have hr := run_bytes_of_string (P := P) w ts tb te s h1 h2 h3
 unfold Oper.wp
 simp only [execOp, hop, hx, Sem.run_bind, hr, Result.andThen, Sem.run_pure, Oper.upon]
 refine hK _ _ (h _ _ (grownCap_ge w s.size 0 te) ?_ ?_ ?_)
 ·
  exact bytesRow_cell w s _ te (grownCap_ge w s.size 0 te)
 ·
  exact ⟨rfl, rfl, rfl, by simp, fun k hk _ => heap_alloc_old w.drew _ hk⟩
 ·
  simp
theorem below_of_grown {w w' : World} (h : w.grownBy w' none) : Below w.heap.size w w' :=
 (Below.refl _ _).grown h (Nat.le_refl _) (by intro k hk; cases hk)
end
end
section
def fitsB (n : Int) : Bool := decide (-2147483648 ≤ n) && decide (n ≤ 2147483647)
theorem fitsB_yes {n : Int} (h : -2147483648 ≤ n) (h' : n ≤ 2147483647) : fitsB n = true := by simp [fitsB, h, h']
theorem fitsB_lo {n : Int} (h : n < -2147483648) : fitsB n = false := by
 have : ¬ (-2147483648 ≤ n) := by omega
 simp [fitsB, this]
theorem fitsB_hi {n : Int} (h : 2147483647 < n) : fitsB n = false := by
 have : ¬ (n ≤ 2147483647) := by omega
 simp [fitsB, this]
set_option maxHeartbeats 400000 in
theorem fix_Fits (n : Int) (w : World) :
  Calls Tryz.prog 137 #[.int .i64 n] w fun e w' => e = .returned (.bool (fitsB n)) ∧ w = w' := by
 go_enter func137, ntmps137
 go_wp2
 ·
  go_ret
  have h : -2147483648 ≤ n := by assumption
  exact ⟨by simp [fitsB, h], rfl⟩
 ·
  go_ret
  have h : n < -2147483648 := by assumption
  exact ⟨by simp [fitsB_lo h], rfl⟩
set_option maxHeartbeats 400000 in
theorem ref_Fits (n : Int) (w : World) :
  Calls Tryz.prog 60 #[.int .i64 n] w fun e w' => e = .returned (.bool (fitsB n)) ∧ w = w' := by
 go_enter func60, ntmps60
 go_wp2
 ·
  go_ret
  have h : -2147483648 ≤ n := by assumption
  exact ⟨by simp [fitsB, h], rfl⟩
 ·
  go_ret
  have h : n < -2147483648 := by assumption
  exact ⟨by simp [fitsB_lo h], rfl⟩
/-- a byte, of a number -/
def ch (n : Int) : UInt8 := UInt8.ofNat n.toNat
def bs (l : List UInt8) : ByteArray := ⟨l.toArray⟩
theorem bs_append (a b : List UInt8) : bs a ++ bs b = bs (a ++ b) := by
 apply ByteArray.ext
 simp [bs]
theorem bs_size (l : List UInt8) : (bs l).size = l.length := by simp [bs, ByteArray.size]
/-- the digits of a number -/
def digitsL (n : Nat) : List UInt8 :=
 if n < 10 then [ch (48 + n)] else digitsL (n / 10) ++ [ch (48 + (n % 10 : Nat))]
termination_by n
theorem digitsL_lt (n : Nat) (h : n < 10) : digitsL n = [ch (48 + n)] := by rw [digitsL, if_pos h]
theorem digitsL_ge (n : Nat) (h : 10 ≤ n) : digitsL n = digitsL (n / 10) ++ [ch (48 + (n % 10 : Nat))] := by rw [digitsL, if_neg (by omega)]
theorem digitsL_len (k : Nat) : ∀ n : Nat, n < 10 ^ (k + 1) → (digitsL n).length ≤ k + 1 := by
  induction k with
  | zero => intro n h; rw [digitsL, if_pos (by simpa using h)]; simp
  | succ k ih =>
    intro n h
    rw [digitsL]
    split
    · simp
    · have := ih (n / 10) (by rw [Nat.pow_succ] at h; omega)
      simp; omega
theorem digitsL_size (n : Nat) (h : n < 18446744073709551616) : (bs (digitsL n)).size ≤ 20 := by
 rw [bs_size]; exact digitsL_len 19 n (Nat.lt_trans h (by decide))
/-- string([]byte(c)), the slice just laid -/
theorem byte_str (w : World) (x : Int) : (convert 26 9 (.slice (some ⟨w.heap.size, 0, none⟩) 1 1)).run Tryz.prog (w.alloc (.cells #[.int .u8 x] 5)) =
    .ok (.string (bs [ch x])) (w.alloc (.cells #[.int .u8 x] 5)) := by
  have h := run_convert_bytes_arg (P := Tryz.prog) (w.alloc (.cells #[.int .u8 x] 5)) 26 5 underlying26 underlying5 w.heap.size 0 1 1 [x] rfl
    (by intro i hi; obtain rfl : i = 0 := by omega
        go_simp) 9 underlying9
  exact h
set_option maxHeartbeats 400000 in
theorem ref_udec (n : Nat) (w : World) (hn : n < 18446744073709551616):
    Calls Tryz.prog 41 #[.int .u64 n] w fun e w' => e = .returned (.string (bs (digitsL n))) ∧ Below w.heap.size w w' := by
  have hbyte := byte_str
  go_enter func41, ntmps41
  go_wp2_with fail
  go_loopw [0, 3] (fun u s wr => ∃ (m : Nat) (t : List UInt8), m < 18446744073709551616 ∧ u = .int .u64 m ∧ s = .string (bs t) ∧ Below w.heap.size w wr ∧ t.length + (digitsL m).length ≤ 20 ∧ digitsL n = digitsL m ++ t) (fun u _ _ => (intOf u).toNat)
  case atStart => exact ⟨n, [], hn, rfl, rfl, Below.refl _ _, by have := digitsL_size n hn; rw [bs_size] at this; simpa using this, by simp⟩
  case round =>
    obtain ⟨m, t, hm, rfl, rfl, hb, hl, hd⟩ := hrel
    have Hd := hid hd; clear hd
    have hs : (bs t).size ≤ 20 := by rw [bs_size]; omega
    have hs1 : (bs [ch (48 + (m : Int) % 10)]).size ≤ 1 := by rw [bs_size]; simp
    have hsz := hb.size
    by_cases h10 : m < 10
    · have hz : (((m : Int) / 10) == 0) = true := by rw [beq_iff_eq]; omega
      go_wp2
      go_ret
      have e : (m : Int) % 10 = (m : Int) := by omega
      exact ⟨by rw [Hd.out, digitsL_lt m h10, ← bs_append, e]; rfl, hb.alloc hsz _⟩
    · have hz : (((m : Int) / 10) == 0) = false := by rw [beq_eq_false_iff_ne]; omega
      have hg := digitsL_ge m (by omega)
      have Hg := hid hg; clear hg
      go_wp2
      refine ⟨⟨m / 10, ch (48 + ((m % 10 : Nat) : Int)) :: t, by omega, by go_num, by rw [bs_append]; simp, hb.alloc hsz _, ?_, ?_⟩, by simp [intOf]; omega⟩
      · have := congrArg List.length Hg.out
        simp at this ⊢; omega
      · rw [Hd.out, Hg.out]; simp
theorem ref_udecI (n : Int) (w : World) (h0 : 0 ≤ n) (hn : n < 18446744073709551616):
  Calls Tryz.prog 41 #[.int .u64 n] w fun e w' => e = .returned (.string (bs (digitsL n.toNat))) ∧ Below w.heap.size w w' := by
 have h := ref_udec n.toNat w (by omega)
 rw [Int.toNat_of_nonneg h0] at h
 exact h
/-- a whole number's digits, with its sign -/
def decL (n : Int) : List UInt8 := if n < 0 then 45 :: digitsL n.natAbs else digitsL n.natAbs
set_option maxHeartbeats 400000 in
theorem ref_Dec (n : Int) (w : World) (h : -9223372036854775808 ≤ n) (h' : n ≤ 9223372036854775807) :
    Calls Tryz.prog 18 #[.int .i64 n] w fun e w' => e = .returned (.string (bs (decL n))) ∧ Below w.heap.size w w' := by
  by_cases hn : n < 0
  · have hs1 := digitsL_size (-(n + 1) + 1).toNat (by omega)
    go_enter func18, ntmps18
    go_wp2_with (go_at_call 41; refine (ref_udecI _ _ (by omega) (by omega)).mono ?_; rintro e w' ⟨rfl, hb⟩)
    go_ret
    have e1 : (-(n + 1) + 1).toNat = n.natAbs := by omega
    refine ⟨?_, hb⟩
    rw [decL, if_pos hn, ← e1]
    show Ending.returned (.string (bs [45] ++ bs _)) = _
    rw [bs_append]; rfl
  · go_enter func18, ntmps18
    go_wp2_with (go_at_call 41; refine (ref_udecI _ _ (by omega) (by omega)).mono ?_; rintro e w' ⟨rfl, hb⟩)
    go_ret
    have e1 : n.toNat = n.natAbs := by omega
    refine ⟨?_, hb⟩
    rw [decL, if_neg (by omega), ← e1]
    rfl
theorem decL_size (n : Int) (h : -9223372036854775808 ≤ n) (h' : n ≤ 9223372036854775807) : (bs (decL n)).size ≤ 21 := by
 have := digitsL_size n.natAbs (by omega)
 rw [bs_size] at *
 unfold decL; split <;> simp <;> omega
end
section
def f_head : List UInt8 := [37, 80, 68, 70, 45, 49, 46, 52, 10]
def f_obj : List UInt8 := [32, 48, 32, 111, 98, 106, 10]
def f_endobj : List UInt8 := [10, 101, 110, 100, 111, 98, 106, 10]
def f_used : List UInt8 := [32, 48, 48, 48, 48, 48, 32, 110, 32, 10]
def f_first : List UInt8 := [48, 48, 48, 48, 48, 48, 48, 48, 48, 48, 32, 54, 53, 53, 51, 53, 32, 102, 32, 10]
def f_xref : List UInt8 := [120, 114, 101, 102, 10, 48, 32]
def f_trailer : List UInt8 := [116, 114, 97, 105, 108, 101, 114, 10, 60, 60, 32, 47, 82, 111, 111, 116, 32, 49, 32, 48, 32, 82, 32, 47, 83, 105, 122, 101, 32]
def f_start : List UInt8 := [32, 62, 62, 10, 115, 116, 97, 114, 116, 120, 114, 101, 102, 10]
def f_eof : List UInt8 := [10, 37, 37, 69, 79, 70, 10]
/-- a number in ten digits -/
def tenL (n : Nat) : List UInt8 := List.replicate (10 - (digitsL n).length) 48 ++ digitsL n
theorem tenL_len {n : Nat} (h : n < 10000000000) : (tenL n).length = 10 := by
 have h1 := digitsL_len 9 n (by omega)
 simp only [tenL, List.length_append, List.length_replicate]; omega
/-- the number that digits say -/
def numF (l : List UInt8) : Nat := l.foldl (fun a c => 10 * a + (c.toNat - 48)) 0
theorem numF_append (l m : List UInt8) : numF (l ++ m) = m.foldl (fun a c => 10 * a + (c.toNat - 48)) (numF l) := by simp [numF, List.foldl_append]
theorem ch_digit (k : Nat) (h : k < 10) : (ch (48 + k)).toNat = 48 + k := by
 have : ∀ k : Nat, k < 10 → (ch (48 + (k : Int))).toNat = 48 + k := by decide
 exact this k h
theorem numF_digits : ∀ (n : Nat), numF (digitsL n) = n := by
  intro n
  induction n using Nat.strongRecOn with
  | _ n ih =>
    by_cases h : n < 10
    · rw [digitsL_lt n h]
      show 10 * 0 + ((ch (48 + n)).toNat - 48) = n
      rw [ch_digit n h]; omega
    · rw [digitsL_ge n (by omega), numF_append, ih (n / 10) (by omega)]
      show 10 * (n / 10) + ((ch (48 + (n % 10 : Nat))).toNat - 48) = n
      rw [ch_digit (n % 10) (by omega)]; omega
theorem numF_zeros (k : Nat) : numF (List.replicate k (48 : UInt8)) = 0 := by
 induction k with
 | zero => rfl
 | succ k ih => rw [List.replicate_succ', numF_append, ih]; rfl
theorem numF_ten (n : Nat) : numF (tenL n) = n := by
 unfold tenL
 rw [numF_append, numF_zeros]
 exact numF_digits n
theorem digit_all : ∀ (n : Nat), ∀ c ∈ digitsL n, 48 ≤ c.toNat ∧ c.toNat ≤ 57 := by
  intro n
  induction n using Nat.strongRecOn with
  | _ n ih =>
    intro c hc
    by_cases h : n < 10
    · rw [digitsL_lt n h] at hc
      simp only [List.mem_singleton] at hc
      subst hc
      rw [ch_digit n h]; omega
    · rw [digitsL_ge n (by omega)] at hc
      rcases List.mem_append.1 hc with h1 | h1
      · exact ih (n / 10) (by omega) c h1
      · simp only [List.mem_singleton] at h1
        subst h1
        rw [ch_digit (n % 10) (by omega)]; omega
theorem ten_all (n : Nat) : ∀ c ∈ tenL n, 48 ≤ c.toNat ∧ c.toNat ≤ 57 := fun c hc => by
 rcases List.mem_append.1 hc with h | h
 ·
  rw [List.eq_of_mem_replicate h]; decide
 ·
  exact digit_all n c h
/-- the i-th object -/
def objF (i : Nat) (t : List UInt8) : List UInt8 := digitsL (i + 1) ++ f_obj ++ t ++ f_endobj
def bodyF : Nat → List (List UInt8) → List UInt8
 | _, [] => []
 | i, t :: ts => objF i t ++ bodyF (i + 1) ts
def placeF : Nat → Nat → List (List UInt8) → List Nat
 | _, _, [] => []
 | n, i, t :: ts => n :: placeF (n + (objF i t).length) (i + 1) ts
def entryF (n : Nat) : List UInt8 := tenL n ++ f_used
def tableF (ps : List Nat) : List UInt8 := f_first ++ ps.flatMap entryF
theorem entryF_len {n : Nat} (h : n < 10000000000) : (entryF n).length = 20 := by
 simp only [entryF, List.length_append, tenL_len h]; rfl
theorem placeF_len : ∀ (ts : List (List UInt8)) (n i : Nat), (placeF n i ts).length = ts.length
 | [], _, _ => rfl
 | _ :: ts, n, i => by simp only [placeF, List.length_cons, placeF_len ts]
/-- where the j-th object stands, it stands -/
theorem place_drop : ∀ (ts : List (List UInt8)) (A X : List UInt8) (i j : Nat) (hj : j < ts.length),
  ∃ (hp : j < (placeF A.length i ts).length) (R : List UInt8), (A ++ (bodyF i ts ++ X)).drop ((placeF A.length i ts)[j]) = objF (i + j) ts[j] ++ R ∧ (placeF A.length i ts)[j] + (objF (i + j) ts[j]).length ≤ A.length + (bodyF i ts).length
 | [], _, _, _, j, hj => by cases hj
 | t :: ts, A, X, i, 0, hj => ⟨by simp [placeF], bodyF (i + 1) ts ++ X, by
   simp only [placeF, bodyF, List.getElem_cons_zero, List.append_assoc, Nat.add_zero]
   rw [List.drop_left], by simp only [placeF, bodyF, List.getElem_cons_zero, List.length_append, Nat.add_zero]; omega⟩
 | t :: ts, A, X, i, j + 1, hj => by
  obtain ⟨hp, R, h1, h2⟩ := place_drop ts (A ++ objF i t) X (i + 1) j (by simpa using hj)
  rw [List.length_append] at hp
  refine ⟨by simpa [placeF] using hp, R, ?_, ?_⟩
  ·
   simp only [placeF, bodyF, List.getElem_cons_succ, List.append_assoc] at h1 ⊢
   simp only [List.length_append] at h1
   rw [h1, show i + 1 + j = i + (j + 1) by omega]
  ·
   simp only [placeF, bodyF, List.getElem_cons_succ, List.length_append] at h2 ⊢
   rw [show i + (j + 1) = i + 1 + j by omega]
   omega
theorem bodyF_snoc : ∀ (ts : List (List UInt8)) (i : Nat) (t : List UInt8), bodyF i (ts ++ [t]) = bodyF i ts ++ objF (i + ts.length) t
 | [], i, t => by simp [bodyF]
 | x :: ts, i, t => by simp only [List.cons_append, bodyF, bodyF_snoc ts (i + 1) t, List.length_cons, List.append_assoc]; rw [show i + 1 + ts.length = i + (ts.length + 1) by omega]
theorem placeF_snoc : ∀ (ts : List (List UInt8)) (n i : Nat) (t : List UInt8), placeF n i (ts ++ [t]) = placeF n i ts ++ [n + (bodyF i ts).length]
 | [], n, i, t => by simp [placeF, bodyF]
 | x :: ts, n, i, t => by simp only [List.cons_append, placeF, placeF_snoc ts (n + (objF i x).length) (i + 1) t, bodyF, List.length_append]; rw [Nat.add_assoc]
theorem tableF_snoc (ps : List Nat) (p : Nat) : tableF (ps ++ [p]) = tableF ps ++ entryF p := by simp [tableF, List.flatMap_append]
theorem placeF_le : ∀ (ts : List (List UInt8)) (n i : Nat), ∀ p ∈ placeF n i ts, p ≤ n + (bodyF i ts).length
 | [], _, _, p, h => by cases h
 | x :: ts, n, i, p, h => by
  simp only [placeF, List.mem_cons] at h
  simp only [bodyF, List.length_append]
  rcases h with rfl | h
  ·
   omega
  ·
   have := placeF_le ts _ _ p h; omega
/-- the file -/
def fileF (ts : List (List UInt8)) : List UInt8 :=
 f_head ++ (bodyF 0 ts ++ (f_xref ++ (digitsL (ts.length + 1) ++ (10 :: (tableF (placeF 9 0 ts) ++ (f_trailer ++ (digitsL (ts.length + 1) ++ (f_start ++ (digitsL (9 + (bodyF 0 ts).length) ++ f_eof)))))))))
end
section
/-- digits behind the point, at most so many -/
def fracK : Nat → Nat → List UInt8
 | 0, _ => []
 | k + 1, f => if f = 0 then [] else ch (48 + ((f * 10 / 65536 : Nat) : Int)) :: fracK k (f * 10 % 65536)
theorem fracK_stable (k : Nat) : ∀ f : Nat, k ≤ 16 → f < 65536 → 2 ^ (16 - k) ∣ f → fracK k f = fracK (k + 1) f := by
  induction k with
  | zero =>
    intro f _ hf hd
    obtain ⟨c, hc⟩ := hd
    have : f = 0 := by simp at hc; omega
    simp [fracK, this]
  | succ k ih =>
    intro f hk hf hd
    rw [fracK, fracK]
    split
    · rfl
    · rw [ih (f * 10 % 65536) (by omega) (by omega)]
      have e : 16 - k = (16 - (k + 1)) + 1 := by omega
      have h1 : 2 ^ (16 - k) ∣ f * 10 := by
        rw [e, Nat.pow_succ]
        exact Nat.mul_dvd_mul hd ⟨5, rfl⟩
      have h2 : 2 ^ (16 - k) ∣ 65536 := by
        rw [show (65536 : Nat) = 2 ^ 16 from rfl]
        exact Nat.pow_dvd_pow 2 (by omega)
      exact (Nat.dvd_mod_iff h2).2 h1
def fracL (f : Nat) : List UInt8 := fracK 16 f
theorem fracL_zero : fracL 0 = [] := rfl
theorem fracL_step (f : Nat) (h0 : 0 < f) (h : f < 65536) : fracL f = ch (48 + ((f * 10 / 65536 : Nat) : Int)) :: fracL (f * 10 % 65536) := by
 unfold fracL
 rw [fracK, if_neg (by omega), fracK_stable 15 (f * 10 % 65536) (by omega) (by omega) (by
  have h1 : 2 ^ (16 - 15) ∣ f * 10 := ⟨f * 5, by omega⟩
  exact (Nat.dvd_mod_iff (by decide)).2 h1)]
theorem fracK_len (k : Nat) : ∀ f, (fracK k f).length ≤ k := by
 induction k with
 | zero => intro f; simp [fracK]
 | succ k ih =>
  intro f; rw [fracK]; split
  ·
   simp
  ·
   have := ih (f * 10 % 65536); simp; omega
theorem fracL_len (f : Nat) : (fracL f).length ≤ 16 := fracK_len 16 f
end
end Go.Proofs.YthljhjcndpnleaaGreatDoor
namespace Go.Proofs
open Go.Proofs.Tryz
open Go.Shelf
def Tryz.lays161_ren : Go.Shelf.Ren := ⟨fun | 161 => 135 | 231 => 74 | 227 => 76 | 233 => 77 | 235 => 79 | 228 => 87 | 197 => 88 | 151 => 89 | 260 => 99 | 152 => 100 | 137 => 48 | 119 => 108 | 224 => 109 | 225 => 110 | 217 => 66 | 266 => 73 | n => n, fun | 9 => 9 | 4 => 4 | 3 => 3 | 5 => 5 | 117 => 105 | 116 => 104 | 0 => 0 | 124 => 108 | 105 => 113 | 21 => 21 | 119 => 134 | 46 => 101 | 139 => 137 | 138 => 136 | n => n, fun | 3 => 1 | 4 => 2 | n => n⟩
theorem Tryz.lays161 : Go.Proofs.Lays.n161 Tryz.prog Tryz.lays161_ren := {
  mixed := by kernel_rfl
  f119 := Tryz.func108.trans (congrArg some (by kernel_rfl))
  f137 := Tryz.func48.trans (congrArg some (by kernel_rfl))
  f151 := Tryz.func89.trans (congrArg some (by kernel_rfl))
  f152 := Tryz.func100.trans (congrArg some (by kernel_rfl))
  f161 := Tryz.func135.trans (congrArg some (by kernel_rfl))
  f197 := Tryz.func88.trans (congrArg some (by kernel_rfl))
  f217 := Tryz.func66.trans (congrArg some (by kernel_rfl))
  f224 := Tryz.func109.trans (congrArg some (by kernel_rfl))
  f225 := Tryz.func110.trans (congrArg some (by kernel_rfl))
  f227 := Tryz.func76.trans (congrArg some (by kernel_rfl))
  f228 := Tryz.func87.trans (congrArg some (by kernel_rfl))
  f231 := Tryz.func74.trans (congrArg some (by kernel_rfl))
  f233 := Tryz.func77.trans (congrArg some (by kernel_rfl))
  f235 := Tryz.func79.trans (congrArg some (by kernel_rfl))
  f260 := Tryz.func99.trans (congrArg some (by kernel_rfl))
  f266 := Tryz.func73.trans (congrArg some (by kernel_rfl))
  t0 := Tryz.underlying0
  a0 := Tryz.isAgg0
  z0 := Tryz.sizeOf0
  v0 := Tryz.zeroValue0
  t3 := Tryz.underlying3
  a3 := Tryz.isAgg3
  z3 := Tryz.sizeOf3
  v3 := Tryz.zeroValue3
  t4 := Tryz.underlying4
  a4 := Tryz.isAgg4
  z4 := Tryz.sizeOf4
  v4 := Tryz.zeroValue4
  t5 := Tryz.underlying5
  a5 := Tryz.isAgg5
  z5 := Tryz.sizeOf5
  v5 := Tryz.zeroValue5
  t9 := Tryz.underlying9
  a9 := Tryz.isAgg9
  z9 := Tryz.sizeOf9
  v9 := Tryz.zeroValue9
  t21 := Tryz.underlying21
  a21 := Tryz.isAgg21
  z21 := Tryz.sizeOf21
  v21 := Tryz.zeroValue21
  t46 := Tryz.underlying101
  a46 := Tryz.isAgg101
  z46 := Tryz.sizeOf101
  v46 := Tryz.zeroValue101
  t105 := Tryz.underlying113
  a105 := Tryz.isAgg113
  z105 := Tryz.sizeOf113
  v105 := Tryz.zeroValue113
  t116 := Tryz.underlying104
  a116 := Tryz.isAgg104
  z116 := Tryz.sizeOf104
  t117 := Tryz.underlying105
  a117 := Tryz.isAgg105
  z117 := Tryz.sizeOf105
  v117 := Tryz.zeroValue105
  t119 := Tryz.underlying134
  a119 := Tryz.isAgg134
  z119 := Tryz.sizeOf134
  t124 := Tryz.underlying108
  a124 := Tryz.isAgg108
  z124 := Tryz.sizeOf108
  v124 := Tryz.zeroValue108
  t138 := Tryz.underlying136
  a138 := Tryz.isAgg136
  z138 := Tryz.sizeOf136
  v138 := Tryz.zeroValue136
  t139 := Tryz.underlying137
  a139 := Tryz.isAgg137
  z139 := Tryz.sizeOf137
  v139 := Tryz.zeroValue137
  g3 := by kernel_rfl
  g4 := by kernel_rfl }
open Go.RowKit in
theorem Tryz.strings_TrimLeft_one (s : ByteArray) (c : UInt8) (hc : c.toNat < 128) (w : World) :
    Calls Tryz.prog 135 #[.string s, .string ⟨#[c]⟩] w fun e w' => e = .returned (.string ⟨(Lib.trimLeftB s.data.toList c).toArray⟩) ∧ w' = w := Any.strings_TrimLeft_one Tryz.lays161 s c hc w
def Tryz.lays160_ren : Go.Shelf.Ren := ⟨fun | 160 => 67 | 232 => 75 | 231 => 74 | 227 => 76 | 234 => 78 | 233 => 77 | 236 => 80 | 235 => 79 | 228 => 87 | 271 => 90 | 151 => 89 | 197 => 88 | 120 => 101 | 152 => 100 | 260 => 99 | 137 => 48 | 119 => 108 | 224 => 109 | 225 => 110 | 217 => 66 | 266 => 73 | n => n, fun | 9 => 9 | 4 => 4 | 3 => 3 | 5 => 5 | 117 => 105 | 116 => 104 | 0 => 0 | 124 => 108 | 21 => 21 | 105 => 113 | 46 => 101 | 119 => 134 | 139 => 137 | 138 => 136 | n => n, fun | 3 => 1 | 4 => 2 | n => n⟩
theorem Tryz.lays160 : Go.Proofs.Lays.n160 Tryz.prog Tryz.lays160_ren := {
  mixed := by kernel_rfl
  f119 := Tryz.func108.trans (congrArg some (by kernel_rfl))
  f120 := Tryz.func101.trans (congrArg some (by kernel_rfl))
  f137 := Tryz.func48.trans (congrArg some (by kernel_rfl))
  f151 := Tryz.func89.trans (congrArg some (by kernel_rfl))
  f152 := Tryz.func100.trans (congrArg some (by kernel_rfl))
  f160 := Tryz.func67.trans (congrArg some (by kernel_rfl))
  f197 := Tryz.func88.trans (congrArg some (by kernel_rfl))
  f217 := Tryz.func66.trans (congrArg some (by kernel_rfl))
  f224 := Tryz.func109.trans (congrArg some (by kernel_rfl))
  f225 := Tryz.func110.trans (congrArg some (by kernel_rfl))
  f227 := Tryz.func76.trans (congrArg some (by kernel_rfl))
  f228 := Tryz.func87.trans (congrArg some (by kernel_rfl))
  f231 := Tryz.func74.trans (congrArg some (by kernel_rfl))
  f232 := Tryz.func75.trans (congrArg some (by kernel_rfl))
  f233 := Tryz.func77.trans (congrArg some (by kernel_rfl))
  f234 := Tryz.func78.trans (congrArg some (by kernel_rfl))
  f235 := Tryz.func79.trans (congrArg some (by kernel_rfl))
  f236 := Tryz.func80.trans (congrArg some (by kernel_rfl))
  f260 := Tryz.func99.trans (congrArg some (by kernel_rfl))
  f266 := Tryz.func73.trans (congrArg some (by kernel_rfl))
  f271 := Tryz.func90.trans (congrArg some (by kernel_rfl))
  t0 := Tryz.underlying0
  a0 := Tryz.isAgg0
  z0 := Tryz.sizeOf0
  v0 := Tryz.zeroValue0
  t3 := Tryz.underlying3
  a3 := Tryz.isAgg3
  z3 := Tryz.sizeOf3
  v3 := Tryz.zeroValue3
  t4 := Tryz.underlying4
  a4 := Tryz.isAgg4
  z4 := Tryz.sizeOf4
  v4 := Tryz.zeroValue4
  t5 := Tryz.underlying5
  a5 := Tryz.isAgg5
  z5 := Tryz.sizeOf5
  v5 := Tryz.zeroValue5
  t9 := Tryz.underlying9
  a9 := Tryz.isAgg9
  z9 := Tryz.sizeOf9
  v9 := Tryz.zeroValue9
  t21 := Tryz.underlying21
  a21 := Tryz.isAgg21
  z21 := Tryz.sizeOf21
  v21 := Tryz.zeroValue21
  t46 := Tryz.underlying101
  a46 := Tryz.isAgg101
  z46 := Tryz.sizeOf101
  v46 := Tryz.zeroValue101
  t105 := Tryz.underlying113
  a105 := Tryz.isAgg113
  z105 := Tryz.sizeOf113
  v105 := Tryz.zeroValue113
  t116 := Tryz.underlying104
  a116 := Tryz.isAgg104
  z116 := Tryz.sizeOf104
  t117 := Tryz.underlying105
  a117 := Tryz.isAgg105
  z117 := Tryz.sizeOf105
  v117 := Tryz.zeroValue105
  t119 := Tryz.underlying134
  a119 := Tryz.isAgg134
  z119 := Tryz.sizeOf134
  t124 := Tryz.underlying108
  a124 := Tryz.isAgg108
  z124 := Tryz.sizeOf108
  v124 := Tryz.zeroValue108
  t138 := Tryz.underlying136
  a138 := Tryz.isAgg136
  z138 := Tryz.sizeOf136
  v138 := Tryz.zeroValue136
  t139 := Tryz.underlying137
  a139 := Tryz.isAgg137
  z139 := Tryz.sizeOf137
  v139 := Tryz.zeroValue137
  g3 := by kernel_rfl
  g4 := by kernel_rfl }
def Tryz.lays119_ren : Go.Shelf.Ren := ⟨fun | 119 => 108 | n => n, fun | 21 => 21 | 4 => 4 | n => n, fun | n => n⟩
theorem Tryz.lays119 : Go.Proofs.Lays.n119 Tryz.prog Tryz.lays119_ren := {
  mixed := by kernel_rfl
  f119 := Tryz.func108.trans (congrArg some (by kernel_rfl))
  t4 := Tryz.underlying4
  a4 := Tryz.isAgg4
  z4 := Tryz.sizeOf4
  v4 := Tryz.zeroValue4
  t21 := Tryz.underlying21
  a21 := Tryz.isAgg21
  z21 := Tryz.sizeOf21
  v21 := Tryz.zeroValue21 }
theorem Tryz.utf8_ValidRune (r : Int) (w : World) :
    Calls Tryz.prog 108 #[.int .i32 r] w fun e w' => e = .returned (.bool (Lib.validRune r)) ∧ w' = w := Any.utf8_ValidRune Tryz.lays119 r w
def Tryz.lays137_ren : Go.Shelf.Ren := ⟨fun | 137 => 48 | 217 => 66 | 266 => 73 | n => n, fun | 9 => 9 | 5 => 5 | 3 => 3 | n => n, fun | n => n⟩
theorem Tryz.lays137 : Go.Proofs.Lays.n137 Tryz.prog Tryz.lays137_ren := {
  mixed := by kernel_rfl
  f137 := Tryz.func48.trans (congrArg some (by kernel_rfl))
  f217 := Tryz.func66.trans (congrArg some (by kernel_rfl))
  f266 := Tryz.func73.trans (congrArg some (by kernel_rfl))
  t3 := Tryz.underlying3
  a3 := Tryz.isAgg3
  z3 := Tryz.sizeOf3
  v3 := Tryz.zeroValue3
  t5 := Tryz.underlying5
  a5 := Tryz.isAgg5
  z5 := Tryz.sizeOf5
  v5 := Tryz.zeroValue5
  t9 := Tryz.underlying9
  a9 := Tryz.isAgg9
  z9 := Tryz.sizeOf9
  v9 := Tryz.zeroValue9 }
open Go.RowKit in
theorem Tryz.strings_IndexByte (s : ByteArray) (c : Int) (w : World) :
    Calls Tryz.prog 48 #[.string s, .int .u8 c] w fun e w' => e = .returned (.int .i64 (Lib.indexByte s.data.toList c.toNat.toUInt8)) ∧ w' = w := Any.strings_IndexByte Tryz.lays137 s c w
def Tryz.lays219_ren : Go.Shelf.Ren := ⟨fun | 219 => 149 | 217 => 66 | 225 => 110 | 224 => 109 | 267 => 155 | 266 => 73 | 314 => 158 | n => n, fun | 9 => 9 | 3 => 3 | 4 => 4 | 5 => 5 | 46 => 101 | 146 => 92 | 51 => 91 | n => n, fun | 1 => 0 | n => n⟩
theorem Tryz.lays219 : Go.Proofs.Lays.n219 Tryz.prog Tryz.lays219_ren := {
  mixed := by kernel_rfl
  f217 := Tryz.func66.trans (congrArg some (by kernel_rfl))
  f219 := Tryz.func149.trans (congrArg some (by kernel_rfl))
  f224 := Tryz.func109.trans (congrArg some (by kernel_rfl))
  f225 := Tryz.func110.trans (congrArg some (by kernel_rfl))
  f266 := Tryz.func73.trans (congrArg some (by kernel_rfl))
  f267 := Tryz.func155.trans (congrArg some (by kernel_rfl))
  f314 := Tryz.func158.trans (congrArg some (by kernel_rfl))
  t3 := Tryz.underlying3
  a3 := Tryz.isAgg3
  z3 := Tryz.sizeOf3
  v3 := Tryz.zeroValue3
  t4 := Tryz.underlying4
  a4 := Tryz.isAgg4
  z4 := Tryz.sizeOf4
  v4 := Tryz.zeroValue4
  t5 := Tryz.underlying5
  a5 := Tryz.isAgg5
  z5 := Tryz.sizeOf5
  v5 := Tryz.zeroValue5
  t9 := Tryz.underlying9
  a9 := Tryz.isAgg9
  z9 := Tryz.sizeOf9
  v9 := Tryz.zeroValue9
  t46 := Tryz.underlying101
  a46 := Tryz.isAgg101
  z46 := Tryz.sizeOf101
  v46 := Tryz.zeroValue101
  t51 := Tryz.underlying91
  a51 := Tryz.isAgg91
  z51 := Tryz.sizeOf91
  v51 := Tryz.zeroValue91
  t146 := Tryz.underlying92
  a146 := Tryz.isAgg92
  z146 := Tryz.sizeOf92
  v146 := Tryz.zeroValue92
  g1 := by kernel_rfl }
open Go.RowKit Go.Lib in
theorem Tryz.stringslite_Index_one (s : ByteArray) (c : UInt8) (w : World) :
    Calls Tryz.prog 149 #[.string s, .string ⟨#[c]⟩] w fun e w' => e = .returned (.int .i64 (Lib.indexByte s.data.toList c)) ∧ w' = w := Any.stringslite_Index_one Tryz.lays219 s c w
def Tryz.lays152_ren : Go.Shelf.Ren := ⟨fun | 152 => 100 | 137 => 48 | 119 => 108 | 224 => 109 | 225 => 110 | 217 => 66 | 266 => 73 | n => n, fun | 9 => 9 | 21 => 21 | 3 => 3 | 4 => 4 | 5 => 5 | 0 => 0 | 46 => 101 | n => n, fun | n => n⟩
theorem Tryz.lays152 : Go.Proofs.Lays.n152 Tryz.prog Tryz.lays152_ren := {
  mixed := by kernel_rfl
  f119 := Tryz.func108.trans (congrArg some (by kernel_rfl))
  f137 := Tryz.func48.trans (congrArg some (by kernel_rfl))
  f152 := Tryz.func100.trans (congrArg some (by kernel_rfl))
  f217 := Tryz.func66.trans (congrArg some (by kernel_rfl))
  f224 := Tryz.func109.trans (congrArg some (by kernel_rfl))
  f225 := Tryz.func110.trans (congrArg some (by kernel_rfl))
  f266 := Tryz.func73.trans (congrArg some (by kernel_rfl))
  t0 := Tryz.underlying0
  a0 := Tryz.isAgg0
  z0 := Tryz.sizeOf0
  v0 := Tryz.zeroValue0
  t3 := Tryz.underlying3
  a3 := Tryz.isAgg3
  z3 := Tryz.sizeOf3
  v3 := Tryz.zeroValue3
  t4 := Tryz.underlying4
  a4 := Tryz.isAgg4
  z4 := Tryz.sizeOf4
  v4 := Tryz.zeroValue4
  t5 := Tryz.underlying5
  a5 := Tryz.isAgg5
  z5 := Tryz.sizeOf5
  v5 := Tryz.zeroValue5
  t9 := Tryz.underlying9
  a9 := Tryz.isAgg9
  z9 := Tryz.sizeOf9
  v9 := Tryz.zeroValue9
  t21 := Tryz.underlying21
  a21 := Tryz.isAgg21
  z21 := Tryz.sizeOf21
  v21 := Tryz.zeroValue21
  t46 := Tryz.underlying101
  a46 := Tryz.isAgg101
  z46 := Tryz.sizeOf101
  v46 := Tryz.zeroValue101 }
open Go.RowKit Go.Lib in
theorem Tryz.strings_IndexRune_ascii (s : ByteArray) (r : Int) (w : World) (h0 : 0 ≤ r) (h1 : r < 128) :
    Calls Tryz.prog 100 #[.string s, .int .i32 r] w fun e w' => e = .returned (.int .i64 (Lib.indexByte s.data.toList r.toNat.toUInt8)) ∧ w' = w := Any.strings_IndexRune_ascii Tryz.lays152 s r w h0 h1
def Tryz.lays226_ren : Go.Shelf.Ren := ⟨fun | 226 => 139 | n => n, fun | 3 => 3 | 4 => 4 | n => n, fun | n => n⟩
theorem Tryz.lays226 : Go.Proofs.Lays.n226 Tryz.prog Tryz.lays226_ren := {
  mixed := by kernel_rfl
  f226 := Tryz.func139.trans (congrArg some (by kernel_rfl))
  t3 := Tryz.underlying3
  a3 := Tryz.isAgg3
  z3 := Tryz.sizeOf3
  v3 := Tryz.zeroValue3
  t4 := Tryz.underlying4
  a4 := Tryz.isAgg4
  z4 := Tryz.sizeOf4
  v4 := Tryz.zeroValue4 }
open Go.RowKit Go.Lib in
theorem Tryz.strings_shouldUseASCIISet (n : Int) (w : World) :
    Calls Tryz.prog 139 #[.int .i64 n] w fun e w' => e = .returned (.bool (decide (8 < n))) ∧ w' = w := Any.strings_shouldUseASCIISet Tryz.lays226 n w
def Tryz.lays153_ren : Go.Shelf.Ren := ⟨fun | 153 => 123 | 152 => 100 | 226 => 139 | 227 => 76 | 228 => 87 | 137 => 48 | 119 => 108 | 224 => 109 | 225 => 110 | 217 => 66 | 266 => 73 | n => n, fun | 9 => 9 | 3 => 3 | 4 => 4 | 5 => 5 | 21 => 21 | 117 => 105 | 116 => 104 | 0 => 0 | 46 => 101 | 124 => 108 | n => n, fun | n => n⟩
theorem Tryz.lays153 : Go.Proofs.Lays.n153 Tryz.prog Tryz.lays153_ren := {
  mixed := by kernel_rfl
  f119 := Tryz.func108.trans (congrArg some (by kernel_rfl))
  f137 := Tryz.func48.trans (congrArg some (by kernel_rfl))
  f152 := Tryz.func100.trans (congrArg some (by kernel_rfl))
  f153 := Tryz.func123.trans (congrArg some (by kernel_rfl))
  f217 := Tryz.func66.trans (congrArg some (by kernel_rfl))
  f224 := Tryz.func109.trans (congrArg some (by kernel_rfl))
  f225 := Tryz.func110.trans (congrArg some (by kernel_rfl))
  f226 := Tryz.func139.trans (congrArg some (by kernel_rfl))
  f227 := Tryz.func76.trans (congrArg some (by kernel_rfl))
  f228 := Tryz.func87.trans (congrArg some (by kernel_rfl))
  f266 := Tryz.func73.trans (congrArg some (by kernel_rfl))
  t0 := Tryz.underlying0
  a0 := Tryz.isAgg0
  z0 := Tryz.sizeOf0
  v0 := Tryz.zeroValue0
  t3 := Tryz.underlying3
  a3 := Tryz.isAgg3
  z3 := Tryz.sizeOf3
  v3 := Tryz.zeroValue3
  t4 := Tryz.underlying4
  a4 := Tryz.isAgg4
  z4 := Tryz.sizeOf4
  v4 := Tryz.zeroValue4
  t5 := Tryz.underlying5
  a5 := Tryz.isAgg5
  z5 := Tryz.sizeOf5
  v5 := Tryz.zeroValue5
  t9 := Tryz.underlying9
  a9 := Tryz.isAgg9
  z9 := Tryz.sizeOf9
  v9 := Tryz.zeroValue9
  t21 := Tryz.underlying21
  a21 := Tryz.isAgg21
  z21 := Tryz.sizeOf21
  v21 := Tryz.zeroValue21
  t46 := Tryz.underlying101
  a46 := Tryz.isAgg101
  z46 := Tryz.sizeOf101
  v46 := Tryz.zeroValue101
  t116 := Tryz.underlying104
  a116 := Tryz.isAgg104
  z116 := Tryz.sizeOf104
  t117 := Tryz.underlying105
  a117 := Tryz.isAgg105
  z117 := Tryz.sizeOf105
  v117 := Tryz.zeroValue105
  t124 := Tryz.underlying108
  a124 := Tryz.isAgg108
  z124 := Tryz.sizeOf108
  v124 := Tryz.zeroValue108 }
open Go.RowKit Go.Lib in
theorem Tryz.strings_IndexAny_long (hv116 : ∀ w, (zeroValue 104).run Tryz.prog w = .ok (.agg (Array.replicate 256 (.bool false))) w) (s chars : ByteArray) (w : World) (h2 : 2 ≤ chars.size) (h8 : 8 < s.size) (hs : s.size < 4294967281) (hcs : chars.size < 4294967281) (hascii : ∀ (j : Nat) b, chars.data.toList[j]? = some b → b.toNat < 128) :
    Calls Tryz.prog 123 #[.string s, .string chars] w fun e w' => e = .returned (.int .i64 (Lib.indexAny s.data.toList chars.data.toList)) ∧ w' = ((w.alloc (.cells (Lib.setCells chars.data.toList) 104)).alloc (.cells (Lib.setCells chars.data.toList) 104)) := Any.strings_IndexAny_long Tryz.lays153 hv116 (by kernel_rfl) s chars w h2 h8 hs hcs hascii
def Tryz.lays105_ren : Go.Shelf.Ren := ⟨fun | 105 => 140 | 212 => 143 | 99 => 144 | 165 => 145 | 166 => 146 | 170 => 147 | 169 => 148 | 263 => 150 | 264 => 151 | 206 => 152 | 240 => 153 | 241 => 154 | 276 => 156 | 277 => 157 | n => n, fun | 9 => 9 | 3 => 3 | 4 => 4 | 20 => 20 | 0 => 0 | 46 => 101 | 109 => 154 | 5 => 5 | 72 => 159 | 76 => 162 | 51 => 91 | 146 => 92 | 53 => 73 | 148 => 165 | 70 => 157 | 37 => 26 | 75 => 161 | 127 => 167 | 164 => 168 | 80 => 109 | n => n, fun | n => n⟩
theorem Tryz.lays105 : Go.Proofs.Lays.n105 Tryz.prog Tryz.lays105_ren := {
  mixed := by kernel_rfl
  f99 := Tryz.func144.trans (congrArg some (by kernel_rfl))
  f105 := Tryz.func140.trans (congrArg some (by kernel_rfl))
  f165 := Tryz.func145.trans (congrArg some (by kernel_rfl))
  f166 := Tryz.func146.trans (congrArg some (by kernel_rfl))
  f169 := Tryz.func148.trans (congrArg some (by kernel_rfl))
  f170 := Tryz.func147.trans (congrArg some (by kernel_rfl))
  f206 := Tryz.func152.trans (congrArg some (by kernel_rfl))
  f212 := Tryz.func143.trans (congrArg some (by kernel_rfl))
  f240 := Tryz.func153.trans (congrArg some (by kernel_rfl))
  f241 := Tryz.func154.trans (congrArg some (by kernel_rfl))
  f263 := Tryz.func150.trans (congrArg some (by kernel_rfl))
  f264 := Tryz.func151.trans (congrArg some (by kernel_rfl))
  f276 := Tryz.func156.trans (congrArg some (by kernel_rfl))
  f277 := Tryz.func157.trans (congrArg some (by kernel_rfl))
  t0 := Tryz.underlying0
  a0 := Tryz.isAgg0
  z0 := Tryz.sizeOf0
  v0 := Tryz.zeroValue0
  t3 := Tryz.underlying3
  a3 := Tryz.isAgg3
  z3 := Tryz.sizeOf3
  v3 := Tryz.zeroValue3
  t4 := Tryz.underlying4
  a4 := Tryz.isAgg4
  z4 := Tryz.sizeOf4
  v4 := Tryz.zeroValue4
  t5 := Tryz.underlying5
  a5 := Tryz.isAgg5
  z5 := Tryz.sizeOf5
  v5 := Tryz.zeroValue5
  t9 := Tryz.underlying9
  a9 := Tryz.isAgg9
  z9 := Tryz.sizeOf9
  v9 := Tryz.zeroValue9
  t20 := Tryz.underlying20
  a20 := Tryz.isAgg20
  z20 := Tryz.sizeOf20
  v20 := Tryz.zeroValue20
  t37 := Tryz.underlying26
  a37 := Tryz.isAgg26
  z37 := Tryz.sizeOf26
  v37 := Tryz.zeroValue26
  t46 := Tryz.underlying101
  a46 := Tryz.isAgg101
  z46 := Tryz.sizeOf101
  v46 := Tryz.zeroValue101
  t51 := Tryz.underlying91
  a51 := Tryz.isAgg91
  z51 := Tryz.sizeOf91
  v51 := Tryz.zeroValue91
  t53 := Tryz.underlying73
  a53 := Tryz.isAgg73
  z53 := Tryz.sizeOf73
  v53 := Tryz.zeroValue73
  t70 := Tryz.underlying157
  a70 := Tryz.isAgg157
  z70 := Tryz.sizeOf157
  v70 := Tryz.zeroValue157
  t72 := Tryz.underlying159
  a72 := Tryz.isAgg159
  z72 := Tryz.sizeOf159
  v72 := Tryz.zeroValue159
  t75 := Tryz.underlying161
  a75 := Tryz.isAgg161
  z75 := Tryz.sizeOf161
  v75 := Tryz.zeroValue161
  t76 := Tryz.underlying162
  a76 := Tryz.isAgg162
  z76 := Tryz.sizeOf162
  v76 := Tryz.zeroValue162
  t109 := Tryz.underlying154
  a109 := Tryz.isAgg154
  z109 := Tryz.sizeOf154
  v109 := Tryz.zeroValue154
  t127 := Tryz.underlying167
  a127 := Tryz.isAgg167
  z127 := Tryz.sizeOf167
  v127 := Tryz.zeroValue167
  t146 := Tryz.underlying92
  a146 := Tryz.isAgg92
  z146 := Tryz.sizeOf92
  v146 := Tryz.zeroValue92
  t148 := Tryz.underlying165
  a148 := Tryz.isAgg165
  z148 := Tryz.sizeOf165
  v148 := Tryz.zeroValue165
  t164 := Tryz.underlying168
  a164 := Tryz.isAgg168
  z164 := Tryz.sizeOf168
  v164 := Tryz.zeroValue168 }
theorem Tryz.Builder_Extra_105 : Builder.Extra Tryz.prog Tryz.lays105_ren := {
  sizeBuilder := by kernel_rfl
  liesBuilder := by kernel_rfl
  t5 := Tryz.underlying5
  a5 := Tryz.isAgg5
  z5 := Tryz.sizeOf5
  v5 := Tryz.zeroValue5
  infoByte := by kernel_rfl
  cellsByte := by kernel_rfl
  sizeByte := by kernel_rfl
  neB5 := by decide }
open Go.RowKit Go.Lib in
theorem Tryz.strings_Repeat (s : ByteArray) (c : Nat) (w : World) (hc : c ≤ 9223372036854775807) (hlen : s.size * c ≤ 140737488355328) :
    Calls Tryz.prog 140 #[.string s, .int .i64 c] w fun e w' => e = .returned (.string ⟨(Lib.repeatL s.data.toList c).toArray⟩) ∧ Below w.heap.size w w' := Any.strings_Repeat Tryz.lays105 Tryz.Builder_Extra_105 s c w hc hlen
end Go.Proofs
namespace Go.Proofs.YthljhjcndpnleaaGreatDoor
open Go.RowKit
open Go.Proofs.Tryz
section
theorem bs_toList (l : List UInt8) : (bs l).toList = l := by simp [bs]
theorem trimLeft0 (l : List UInt8) (w : World) :
  Calls Tryz.prog 135 #[.string (bs l), .string ⟨#[48]⟩] w fun e w' => e = .returned (.string (bs (l.dropWhile (· == 48)))) ∧ w = w' :=
 (Tryz.strings_TrimLeft_one (bs l) 48 (by decide) w).mono fun _ _ ⟨h1, h2⟩ => ⟨h1, h2.symm⟩
theorem bs_extract (l : List UInt8) (a b : Nat) : (bs l).extract a b = bs ((l.drop a).take (b - a)) := by
 apply ByteArray.ext
 simp [bs, ByteArray.data_extract]
theorem indexByte_yes (c : UInt8) (B : List UInt8) : ∀ A : List UInt8, c ∉ A → Lib.indexByte (A ++ c :: B) c = (A.length : Int)
 | [], _ => by simp [Lib.indexByte]
 | b :: A, h => by
  simp only [List.mem_cons, not_or] at h
  have ih := indexByte_yes c B A h.2
  have e3 : (b == c) = false := by rw [beq_eq_false_iff_ne]; exact fun e => h.1 e.symm
  have e4 : ((A.length : Int) == -1) = false := by rw [beq_eq_false_iff_ne]; omega
  simp [Lib.indexByte, e3, ih]
theorem indexByte_no (c : UInt8) : ∀ l : List UInt8, c ∉ l → Lib.indexByte l c = -1
 | [], _ => rfl
 | b :: l, h => by
  simp only [List.mem_cons, not_or] at h
  have ih := indexByte_no c l h.2
  have e3 : (b == c) = false := by rw [beq_eq_false_iff_ne]; exact fun e => h.1 e.symm
  simp [Lib.indexByte, e3, ih]
/-- where a byte is, and what is ahead of it and behind it -/
theorem split_at (c : UInt8) : ∀ l : List UInt8, c ∈ l → ∃ A B, l = A ++ c :: B ∧ c ∉ A
 | [], h => by cases h
 | b :: l, h => by
  by_cases e : c = b
  ·
   exact ⟨[], l, by rw [e]; rfl, by simp⟩
  ·
   rcases List.mem_cons.1 h with h | h
   ·
    exact absurd h e
   ·
    obtain ⟨A, B, h1, h2⟩ := split_at c l h
    exact ⟨b :: A, B, by rw [h1]; rfl, by simp [e, h2]⟩
theorem index1_yes (A B : List UInt8) (c : UInt8) (w : World) (h : c ∉ A) :
  Calls Tryz.prog 149 #[.string (bs (A ++ c :: B)), .string ⟨#[c]⟩] w fun e w' => e = .returned (.int .i64 (A.length : Int)) ∧ w = w' := by
 rw [← indexByte_yes c B A h]
 exact (Tryz.stringslite_Index_one (bs _) c w).mono fun _ _ ⟨h1, h2⟩ => ⟨h1, h2.symm⟩
theorem index1_no (l : List UInt8) (c : UInt8) (w : World) (h : c ∉ l) :
  Calls Tryz.prog 149 #[.string (bs l), .string ⟨#[c]⟩] w fun e w' => e = .returned (.int .i64 (-1)) ∧ w = w' := by
 rw [← indexByte_no c l h]
 exact (Tryz.stringslite_Index_one (bs _) c w).mono fun _ _ ⟨h1, h2⟩ => ⟨h1, h2.symm⟩
theorem ret_bool {a b : Bool} (h : a = b) : Ending.returned (.bool a) = Ending.returned (.bool b) := by rw [h]
theorem ret_ssb {a b a' b' : ByteArray} {c : Bool} (h1 : a = a') (h2 : b = b') : Ending.returned (.tuple #[.string a, .string b, .bool c]) = Ending.returned (.tuple #[.string a', .string b', .bool c]) := by
 rw [h1, h2]
set_option maxHeartbeats 400000 in
theorem slCut1_yes (A B : List UInt8) (c : UInt8) (w : World) (hl : (A ++ c :: B).length ≤ 100000000) (hc : c ∉ A) :
  Calls Tryz.prog 142 #[.string (bs (A ++ c :: B)), .string ⟨#[c]⟩] w fun e w' => e = .returned (.tuple #[.string (bs A), .string (bs B), .bool true]) ∧ Below w.heap.size w w' := by
 have hk : A.length < (A ++ c :: B).length := by simp
 have hA : (bs (A ++ c :: B)).extract 0 A.length = bs A := by
  rw [bs_extract]; simp
 have hB : (bs (A ++ c :: B)).extract (A.length + 1) (A ++ c :: B).length = bs B := by
  rw [bs_extract]
  have e : (A ++ c :: B).drop (A.length + 1) = B := by
   rw [← List.drop_drop]; simp
  rw [e, List.take_of_length_le (by simp; omega)]
 have hI := fun w => index1_yes A B c w hc
 have hs : (bs (A ++ c :: B)).size = (A ++ c :: B).length := bs_size _
 generalize A ++ c :: B = l at *
 generalize hkk : A.length = k at *
 clear hkk
 have hA' := hid hA; have hB' := hid hB; clear hA hB hc
 go_enter func142, ntmps142
 go_wp2_with (go_at_call 149; go_must (refine (hI _).mono ?_); rintro e w' ⟨rfl, rfl⟩)
 go_quiet (fail)
 go_wp2
 go_ret3
 exact ⟨ret_ssb hA'.out hB'.out, bdrewN _ _⟩
theorem slCut1_no (l : List UInt8) (c : UInt8) (w : World) (hc : c ∉ l) :
  Calls Tryz.prog 142 #[.string (bs l), .string ⟨#[c]⟩] w fun e w' => e = .returned (.tuple #[.string (bs l), .string (bs []), .bool false]) ∧ Below w.heap.size w w' := by
 have hI := fun w => index1_no l c w hc
 clear hc
 go_enter func142, ntmps142
 go_wp2_with (go_at_call 149; go_must (refine (hI _).mono ?_); rintro e w' ⟨rfl, rfl⟩)
 go_ret3
 exact ⟨rfl, Below.refl _ _⟩
theorem cut1_yes (A B : List UInt8) (c : UInt8) (w : World) (hl : (A ++ c :: B).length ≤ 100000000) (hc : c ∉ A) :
  Calls Tryz.prog 133 #[.string (bs (A ++ c :: B)), .string ⟨#[c]⟩] w fun e w' => e = .returned (.tuple #[.string (bs A), .string (bs B), .bool true]) ∧ Below w.heap.size w w' := by
 have hI := fun w => slCut1_yes A B c w hl hc
 clear hc hl
 go_enter func133, ntmps133
 go_wp2_with (go_at_call 142; go_must (refine (hI _).mono ?_); rintro e w' ⟨rfl, hb⟩)
 go_ret3
 exact ⟨rfl, hb⟩
theorem cut1_no (l : List UInt8) (c : UInt8) (w : World) (hc : c ∉ l) :
  Calls Tryz.prog 133 #[.string (bs l), .string ⟨#[c]⟩] w fun e w' => e = .returned (.tuple #[.string (bs l), .string (bs []), .bool false]) ∧ Below w.heap.size w w' := by
 have hI := fun w => slCut1_no l c w hc
 clear hc
 go_enter func133, ntmps133
 go_wp2_with (go_at_call 142; go_must (refine (hI _).mono ?_); rintro e w' ⟨rfl, hb⟩)
 go_ret3
 exact ⟨rfl, hb⟩
def isDig (b : UInt8) : Bool := decide (48 ≤ b.toNat) && decide (b.toNat ≤ 57)
theorem digs_contains (b : UInt8) : ([48, 49, 50, 51, 52, 53, 54, 55, 56, 57] : List UInt8).contains b = isDig b := by
 unfold isDig
 rw [Bool.eq_iff_iff]
 simp [← UInt8.toNat_inj]
 omega
theorem dropWhile_nil_iff (p : UInt8 → Bool) : ∀ l : List UInt8, l.dropWhile p = [] ↔ l.all p = true
 | [] => by simp
 | b :: l => by
  cases h : p b with
  | true => simp [h, dropWhile_nil_iff p l]
  | false => simp [h]
theorem trimS_nil_iff (l cs : List UInt8) : Lib.trimS l cs = [] ↔ l.all (cs.contains ·) = true := by
 unfold Lib.trimS Lib.trimLeftS Lib.trimRightS
 rw [dropWhile_nil_iff]
 constructor
 ·
  intro h
  cases hd : l.reverse.dropWhile (cs.contains ·) with
  | nil =>
   rw [dropWhile_nil_iff] at hd
   simpa using hd
  | cons x r =>
   exfalso
   rw [hd] at h
   have hx : cs.contains x = true := by
    simp at h
    simpa using h.2
   have := List.head_dropWhile_not (p := (cs.contains ·)) (l := l.reverse) (by rw [hd]; simp)
   simp only [hd, List.head_cons] at this
   rw [hx] at this; cases this
 ·
  intro h
  have : l.reverse.dropWhile (cs.contains ·) = [] := by
   rw [dropWhile_nil_iff]; simpa using h
  rw [this]; rfl
set_option maxHeartbeats 400000 in
theorem dec_plain (l : List UInt8) (w : World) (hl : l.length ≤ 100000000) :
  Calls Tryz.prog 134 #[.string (bs l)] w fun e w' => e = .returned (.bool (l.all isDig)) ∧ Below w.heap.size w w' := by
 have hT := fun w => Any.strings_Trim_laid Tryz.lays160 (by kernel_rfl) (bs l) ⟨#[48, 49, 50, 51, 52, 53, 54, 55, 56, 57]⟩ w (by rw [bs_size]; omega) (by decide) (ascii_of_all (by decide))
 have hN : Lib.trimS l [48, 49, 50, 51, 52, 53, 54, 55, 56, 57] = [] ↔ l.all isDig = true := by
  rw [trimS_nil_iff]
  have : (fun x => ([48, 49, 50, 51, 52, 53, 54, 55, 56, 57] : List UInt8).contains x) = isDig := funext digs_contains
  rw [this]
 have HN := hid hN; clear hN
 go_enter func134, ntmps134
 go_wp2_with (go_at_call 67; go_must (refine (hT _).mono ?_); rintro e w' ⟨rfl, hb⟩)
 go_ret
 exact ⟨ret_bool (by rw [Bool.eq_iff_iff, List.isEmpty_iff]; exact HN.out), hb⟩
theorem ret_bs {m : Bool} {a b : ByteArray} (h : a = b) : Ending.returned (.tuple #[.bool m, .string a]) = Ending.returned (.tuple #[.bool m, .string b]) := by rw [h]
theorem bs_get0 (c : UInt8) (r : List UInt8) (h : 0 < (bs (c :: r)).size) : (bs (c :: r))[0]'h = c := rfl
theorem bs_tail (c : UInt8) (r : List UInt8) : (bs (c :: r)).extract 1 (r.length + 1) = bs r := by
 rw [bs_extract]; simp
theorem bs_ne (c : UInt8) (r : List UInt8) : (bs (c :: r)).toList.isEmpty = false := by simp [bs]
/-- an optional sign -/
def signedL : List UInt8 → Bool × List UInt8
 | [] => (false, [])
 | c :: r => if c = 45 then (true, r) else if c = 43 then (false, r) else (false, c :: r)
set_option maxHeartbeats 400000 in
theorem dec_signed (l : List UInt8) (w : World) (hl : l.length ≤ 100000000) :
  Calls Tryz.prog 118 #[.string (bs l)] w fun e w' => e = .returned (.tuple #[.bool (signedL l).1, .string (bs (signedL l).2)]) ∧ Below w.heap.size w w' := by
 cases l with
 | nil =>
  have hT := bs_toList
  go_enter func118, ntmps118
  go_wp2
  go_ret2
  exact ⟨rfl, Below.refl _ _⟩
 | cons c r =>
  have h0 := bs_get0 c r
  have hs : (bs (c :: r)).size = r.length + 1 := by rw [bs_size]; rfl
  have he := bs_ne c r
  have hb := bs_tail c r
  have Hb := hid hb
  simp only [List.length_cons] at hl
  by_cases h1 : c = 45
  ·
   subst h1
   generalize bs (45 :: r) = s at *
   clear hb
   go_enter func118, ntmps118
   go_wp2
   go_quiet (fail)
   go_wp2
   go_ret2
   exact ⟨ret_bs Hb.out, bdrewN _ _⟩
  ·
   by_cases h2 : c = 43
   ·
    subst h2
    generalize bs (43 :: r) = s at *
    clear hb
    go_enter func118, ntmps118
    go_wp2
    go_quiet (fail)
    go_wp2
    go_ret2
    exact ⟨ret_bs Hb.out, bdrewN _ _⟩
   ·
    have e1 : ((c.toNat : Int) == 45) = false := by
     rw [beq_eq_false_iff_ne]; intro h; exact h1 (UInt8.toNat_inj.1 (by show c.toNat = 45; omega))
    have e2 : ((c.toNat : Int) == 43) = false := by
     rw [beq_eq_false_iff_ne]; intro h; exact h2 (UInt8.toNat_inj.1 (by show c.toNat = 43; omega))
    have e3 : signedL (c :: r) = (false, c :: r) := by simp [signedL, h1, h2]
    rw [e3]
    generalize bs (c :: r) = s at *
    clear hb e3 h1 h2
    go_enter func118, ntmps118
    go_wp2
    go_ret2
    exact ⟨rfl, Below.refl _ _⟩
theorem results4 {fn : Func} {t u v x : Tmp} (h : fn.results = #[.tmp t, .tmp u, .tmp v, .tmp x]) (tmps : Array Value) (P : Program) (w : World) :
  (results fn tmps).run P w = .ok (.tuple #[tmps.getD t undef, tmps.getD u undef, tmps.getD v undef, tmps.getD x undef]) w := by
 simp [results, h]
theorem ret_ssbb {a b a' b' : ByteArray} {c d d' : Bool} (h1 : a = a') (h2 : b = b') (h3 : d = d') : Ending.returned (.tuple #[.string a, .string b, .bool c, .bool d]) = Ending.returned (.tuple #[.string a', .string b', .bool c, .bool d']) := by
 rw [h1, h2, h3]
/-- the whole part, what is behind the point, is there a point -/
def cutDot : List UInt8 → List UInt8 × List UInt8 × Bool
 | [] => ([], [], false)
 | c :: r => if c = 46 then ([], r, true) else (c :: (cutDot r).1, (cutDot r).2)
theorem cutDot_yes (B : List UInt8) : ∀ A : List UInt8, 46 ∉ A → cutDot (A ++ 46 :: B) = (A, B, true)
 | [], _ => by simp [cutDot]
 | c :: A, h => by
  simp only [List.mem_cons, not_or] at h
  have ih := cutDot_yes B A h.2
  simp [cutDot, ih, Ne.symm h.1]
theorem cutDot_no : ∀ l : List UInt8, 46 ∉ l → cutDot l = (l, [], false)
 | [], _ => rfl
 | c :: l, h => by
  simp only [List.mem_cons, not_or] at h
  have ih := cutDot_no l h.2
  simp [cutDot, ih, Ne.symm h.1]
theorem cutDot_len (l : List UInt8) : (cutDot l).1.length + (cutDot l).2.1.length ≤ l.length := by
 induction l with
 | nil => simp [cutDot]
 | cons c r ih => unfold cutDot; split <;> simp; omega
theorem dec_cut (l : List UInt8) (w : World) (hl : l.length ≤ 100000000) :
  Calls Tryz.prog 133 #[.string (bs l), .string ⟨#[46]⟩] w fun e w' => e = .returned (.tuple #[.string (bs (cutDot l).1), .string (bs (cutDot l).2.1), .bool (cutDot l).2.2]) ∧ Below w.heap.size w w' := by
 by_cases h : 46 ∈ l
 ·
  obtain ⟨A, B, rfl, hA⟩ := split_at 46 l h
  rw [cutDot_yes B A hA]; exact cut1_yes A B 46 w hl hA
 ·
  rw [cutDot_no l h]; exact cut1_no l 46 w h
def mantOk (l : List UInt8) : Bool := (cutDot l).1.all isDig && (cutDot l).2.1.all isDig && decide (0 < (cutDot l).1.length + (cutDot l).2.1.length)
set_option maxHeartbeats 400000 in
theorem dec_mantissa (l : List UInt8) (w : World) (hl : l.length ≤ 100000000) :
    Calls Tryz.prog 119 #[.string (bs l)] w fun e w' => e = .returned (.tuple #[.string (bs (cutDot l).1), .string (bs (cutDot l).2.1), .bool (cutDot l).2.2, .bool (mantOk l)]) ∧ Below w.heap.size w w' := by
  have hlen := cutDot_len l
  have hm : mantOk l = ((cutDot l).1.all isDig && (cutDot l).2.1.all isDig && decide (0 < (cutDot l).1.length + (cutDot l).2.1.length)) := rfl
  have hcut := fun w => dec_cut l w hl
  generalize mantOk l = ok at *
  generalize cutDot l = p at *
  obtain ⟨A, B, f⟩ := p
  simp only at hlen hm hcut
  have Hm := hid hm; clear hm
  have s1 : (bs A).size = A.length := bs_size A
  have s2 : (bs B).size = B.length := bs_size B
  by_cases hA : A.all isDig = true
  · by_cases hB : B.all isDig = true
    · have hok : ok = decide (0 < A.length + B.length) := by rw [Hm.out, hA, hB]; rfl
      have HA := hid hA; have HB := hid hB; have Hok := hid hok; clear hok hA hB
      go_enter func119, ntmps119
      go_wp2_with first | (go_at_call 133; go_must (refine (hcut _).mono ?_); rintro e w1 ⟨rfl, hb1⟩) | (go_at_call_of 134 (Value.string (bs A)); go_must (refine (dec_plain A _ (by omega)).mono ?_); rintro e w2 ⟨rfl, hb2⟩; rw [HA.out]) | (go_at_call_of 134 (Value.string (bs B)); go_must (refine (dec_plain B _ (by omega)).mono ?_); rintro e w3 ⟨rfl, hb3⟩; rw [HB.out])
      refine bodyPost_ret (results4 rfl _ _ _) rfl ?_
      refine ⟨ret_ssbb rfl rfl ?_, btr (btr hb1 hb2) hb3⟩
      rw [Hok.out, Bool.eq_iff_iff]; simp; omega
    · have hB' : B.all isDig = false := by simpa using hB
      have hok : ok = false := by rw [Hm.out, hA, hB']; rfl
      have HA := hid hA; have HB := hid hB'; have Hok := hid hok; clear hok hA hB hB'
      go_enter func119, ntmps119
      go_wp2_with first | (go_at_call 133; go_must (refine (hcut _).mono ?_); rintro e w1 ⟨rfl, hb1⟩) | (go_at_call_of 134 (Value.string (bs A)); go_must (refine (dec_plain A _ (by omega)).mono ?_); rintro e w2 ⟨rfl, hb2⟩; rw [HA.out]) | (go_at_call_of 134 (Value.string (bs B)); go_must (refine (dec_plain B _ (by omega)).mono ?_); rintro e w3 ⟨rfl, hb3⟩; rw [HB.out])
      refine bodyPost_ret (results4 rfl _ _ _) rfl ?_
      exact ⟨ret_ssbb rfl rfl Hok.out.symm, btr (btr hb1 hb2) hb3⟩
  · have hA' : A.all isDig = false := by simpa using hA
    have hok : ok = false := by rw [Hm.out, hA']; rfl
    have HA := hid hA'; have Hok := hid hok; clear hok hA hA'
    go_enter func119, ntmps119
    go_wp2_with first | (go_at_call 133; go_must (refine (hcut _).mono ?_); rintro e w1 ⟨rfl, hb1⟩) | (go_at_call_of 134 (Value.string (bs A)); go_must (refine (dec_plain A _ (by omega)).mono ?_); rintro e w2 ⟨rfl, hb2⟩; rw [HA.out])
    refine bodyPost_ret (results4 rfl _ _ _) rfl ?_
    exact ⟨ret_ssbb rfl rfl Hok.out.symm, btr hb1 hb2⟩
end
section
def dbl : List Nat → List Nat × Nat
 | [] => ([], 0)
 | x :: r => ((2 * x + (dbl r).2) % 10 :: (dbl r).1, (2 * x + (dbl r).2) / 10)
theorem dbl_len (l : List Nat) : (dbl l).1.length = l.length := by
 induction l with
 | nil => rfl
 | cons x r ih => simp [dbl, ih]
theorem dbl_carry (l : List Nat) (h : ∀ x ∈ l, x < 10) : (dbl l).2 ≤ 1 := by
 induction l with
 | nil => simp [dbl]
 | cons x r ih =>
  have h1 := h x (by simp)
  have h2 := ih (fun y hy => h y (by simp [hy]))
  simp [dbl]; omega
theorem dbl_digits (l : List Nat) : ∀ x ∈ (dbl l).1, x < 10 := by
 induction l with
 | nil => simp [dbl]
 | cons x r ih =>
  intro y hy
  simp [dbl] at hy
  rcases hy with rfl | hy
  ·
   omega
  ·
   exact ih y hy
def u8s (l : List Nat) : List Value := l.map fun (x : Nat) => Value.int .u8 (x : Int)
theorem u8s_len (l : List Nat) : (u8s l).length = l.length := by simp [u8s]
theorem dbl_step (ds : List Nat) (j : Nat) (hj : j < ds.length) :
  dbl (ds.drop j) = ((2 * ds[j] + (dbl (ds.drop (j + 1))).2) % 10 :: (dbl (ds.drop (j + 1))).1, (2 * ds[j] + (dbl (ds.drop (j + 1))).2) / 10) := by
 rw [List.drop_eq_getElem_cons hj]; rfl
set_option maxHeartbeats 400000 in
theorem dec_double (b : Nat) (cap : Nat) (ds : List Nat) (w : World) (hr : BRow w b (u8s ds)) (hd : ∀ x ∈ ds, x < 10) (hl : ds.length ≤ maxLen) (B : Nat) (hB : B ≤ b) :
  Calls Tryz.prog 136 #[.slice (some ⟨b, 0, none⟩) ds.length cap] w fun e w' => e = .returned (.int .i64 (dbl ds).2) ∧ BRow w' b (u8s (dbl ds).1) ∧ Below B w w' := by
 unfold maxLen at hl
 go_enter func136, ntmps136
 go_wp2_with fail
 go_loopw [3, 4] (fun c i wr => ∃ (k : Nat) (i0 : Int), k ≤ ds.length ∧ i0 = (k : Int) - 1 ∧ i = .int .i64 i0 ∧ c = .int .u8 ((dbl (ds.drop k)).2 : Int) ∧ BRow wr b (u8s (ds.take k ++ (dbl (ds.drop k)).1)) ∧ Below B w wr) (fun _ i _ => (intOf i + 1).toNat)
 case atStart => exact ⟨ds.length, _, Nat.le_refl _, rfl, rfl, by simp [dbl], by simpa [dbl] using hr, Below.refl _ _⟩
 case round =>
  obtain ⟨k, i0, hk, hi0, rfl, rfl, hrow, hbel⟩ := hrel
  cases k with
  | zero =>
   obtain rfl : i0 = -1 := by omega
   clear hi0
   have hc := dbl_carry ds hd
   have e0 : ds.drop 0 = ds := by simp
   rw [e0] at hrow ⊢
   have Hrow := hid hrow; clear hrow
   go_wp2
   go_ret
   exact ⟨rfl, by simpa using Hrow.out, hbel⟩
  | succ j =>
   obtain rfl : i0 = (j : Int) := by omega
   clear hi0
   have hj : j < ds.length := by omega
   have hc := dbl_carry (ds.drop (j + 1)) (fun x hx => hd x (List.mem_of_mem_drop hx))
   have hx := hd ds[j] (by simp)
   have hst := dbl_step ds j hj
   have hsz := hbel.size
   obtain ⟨hcell, hfz⟩ := hrow j (.int .u8 (ds[j] : Int)) (by
    have hl1 : j < (ds.take (j + 1)).length := by simp; omega
    rw [u8s, List.getElem?_map, List.getElem?_append_left hl1, List.getElem?_take, if_pos (by omega), List.getElem?_eq_getElem hj]; rfl)
   have hset := hrow.set j (.int .u8 ((2 * (ds[j] : Int) + ((dbl (ds.drop (j + 1))).2 : Int)) % 10)) (by simp [u8s]; omega)
   have Hset := hid hset; have Hst := hid hst; clear hset hst hrow hr
   generalize hgc : (dbl (ds.drop (j + 1))).2 = c at *
   generalize hgx : ds[j] = x at *
   have Hgc := hid hgc; have Hgx := hid hgx; clear hgc hgx
   go_wp2
   refine ⟨⟨j, _, by omega, rfl, rfl, ?_, ?_, hbel.setCell hB _⟩, by simp [intOf]⟩
   ·
    rw [Hst.out]; go_num
   ·
    have e : (u8s (List.take (j + 1) ds ++ (dbl (List.drop (j + 1) ds)).fst)).set j (Value.int IntKind.u8 ((2 * (x : Int) + (c : Int)) % 10)) = u8s (List.take j ds ++ (dbl (List.drop j ds)).fst) := by
     rw [Hst.out]
     rw [List.take_succ_eq_append_getElem hj]
     have hl1 : (List.map (fun (x : Nat) => Value.int .u8 (x : Int)) (List.take j ds)).length = j := by simp; omega
     simp only [u8s, List.map_append, List.append_assoc]
     rw [List.set_append_right _ _ (by omega), hl1, Nat.sub_self]
     simp
    rw [← e]; exact Hset.out
/-- k rounds: the whole part doubled, what goes over added -/
def rounds : Nat → Int → List Nat → Int × List Nat
 | 0, n, d => (n, d)
 | k + 1, n, d => rounds k (2 * n + (dbl d).2) (dbl d).1
def digitsOf (l : List UInt8) : List Nat := l.map fun c => c.toNat - 48
def natOf (l : List UInt8) : Nat := l.foldl (fun n c => 10 * n + (c.toNat - 48)) 0
/-- a number by its digits ahead of and behind the point, without its sign; none: too great -/
def rawL (whole rest : List UInt8) : Option Int :=
 if 5 < (whole.dropWhile (· == 48)).length then none
 else some ((rounds 16 (natOf (whole.dropWhile (· == 48))) (digitsOf rest)).1 + (dbl (rounds 16 (natOf (whole.dropWhile (· == 48))) (digitsOf rest)).2).2)
def valueL (minus : Bool) (whole rest : List UInt8) : Int × Bool :=
 match rawL whole rest with
 | none => (0, false)
 | some n => let m := if minus then -n else n; (m, fitsB m)
theorem natOf_snoc (l : List UInt8) (c : UInt8) : natOf (l ++ [c]) = 10 * natOf l + (c.toNat - 48) := by simp [natOf]
theorem natOf_from (l : List UInt8) (h : ∀ c ∈ l, isDig c = true) : ∀ n, l.foldl (fun n c => 10 * n + (c.toNat - 48)) n < (n + 1) * 10 ^ l.length := by
 induction l with
 | nil => intro n; simp
 | cons c r ih =>
  intro n
  have h1 := ih (fun x hx => h x (by simp [hx])) (10 * n + (c.toNat - 48))
  have h2 := h c (by simp)
  simp [isDig] at h2
  rw [List.foldl_cons, List.length_cons, Nat.pow_succ]
  have h3 : (10 * n + (c.toNat - 48) + 1) * 10 ^ r.length ≤ (n + 1) * (10 ^ r.length * 10) := by
   rw [Nat.mul_comm (10 ^ r.length) 10, ← Nat.mul_assoc]
   exact Nat.mul_le_mul_right _ (by omega)
  omega
theorem natOf_lt (l : List UInt8) (h : ∀ c ∈ l, isDig c = true) : natOf l < 10 ^ l.length := by
 have := natOf_from l h 0
 rw [Nat.zero_add, Nat.one_mul] at this
 exact this
theorem digitsOf_lt (l : List UInt8) (h : ∀ c ∈ l, isDig c = true) : ∀ x ∈ digitsOf l, x < 10 := by
 intro x hx
 simp [digitsOf] at hx
 obtain ⟨c, hc, rfl⟩ := hx
 have h2 := h c hc
 simp [isDig] at h2
 omega
theorem dec_value_big (minus : Bool) (whole rest : List UInt8) (w : World) (hb : 5 < (whole.dropWhile (· == 48)).length) :
  Calls Tryz.prog 120 #[.bool minus, .string (bs whole), .string (bs rest)] w fun e w' => e = .returned (.tuple #[.int .i64 0, .bool false]) ∧ Below w.heap.size w w' := by
 have hs := bs_size (whole.dropWhile (· == 48))
 have hT := fun w => trimLeft0 whole w
 generalize whole.dropWhile (· == 48) = t at *
 go_enter func120, ntmps120
 go_wp2_with (go_at_call 135; go_must (refine (hT _).mono ?_); rintro e w1 ⟨rfl, rfl⟩)
 go_ret2
 exact ⟨rfl, Below.refl _ _⟩
theorem byteVals_at (l : List UInt8) (k : Nat) (h : k < l.length) : (byteVals l)[k]? = some (.int .u8 (l[k].toNat : Int)) := by
 unfold byteVals
 rw [List.getElem?_map, List.getElem?_eq_getElem h]; rfl
theorem natOf_take (l : List UInt8) (k : Nat) (h : k < l.length) : natOf (l.take (k + 1)) = 10 * natOf (l.take k) + (l[k].toNat - 48) := by
 rw [List.take_succ_eq_append_getElem h, natOf_snoc]
theorem natOf_take_lt (l : List UInt8) (k : Nat) (hl : l.length ≤ 5) (h : ∀ c ∈ l, isDig c = true) : natOf (l.take k) < 100000 := by
 have h1 := natOf_lt (l.take k) (fun c hc => h c (List.mem_of_mem_take hc))
 have h2 : 10 ^ (l.take k).length ≤ 10 ^ 5 := Nat.pow_le_pow_right (by decide) (by simp; omega)
 omega
theorem isDig_bounds {c : UInt8} (h : isDig c = true) : 48 ≤ c.toNat ∧ c.toNat ≤ 57 := by
 simpa [isDig] using h
theorem dec_double' (b : Nat) (cap n : Nat) (ds : List Nat) (w : World) (hn : ds.length = n) (hr : BRow w b (u8s ds)) (hd : ∀ x ∈ ds, x < 10) (hl : n ≤ 3000) (B : Nat) (hB : B ≤ b) :
  Calls Tryz.prog 136 #[.slice (some ⟨b, 0, none⟩) n cap] w fun e w' => e = .returned (.int .i64 (dbl ds).2) ∧ BRow w' b (u8s (dbl ds).1) ∧ Below B w w' := by
 subst hn
 exact dec_double b cap ds w hr hd (by unfold maxLen; omega) B hB
theorem u8s_append (a b : List Nat) : u8s (a ++ b) = u8s a ++ u8s b := by simp [u8s]
theorem digitsOf_len (l : List UInt8) : (digitsOf l).length = l.length := by simp [digitsOf]
theorem mix_at (l : List UInt8) (k : Nat) (h : k < l.length) : (u8s ((digitsOf l).take k) ++ byteVals (l.drop k))[k]? = some (.int .u8 (l[k].toNat : Int)) := by
 have e : (u8s ((digitsOf l).take k)).length = k := by rw [u8s_len, List.length_take, digitsOf_len]; omega
 rw [List.getElem?_append_right (by omega), e, Nat.sub_self, List.drop_eq_getElem_cons h]; rfl
theorem mix_set (l : List UInt8) (k : Nat) (h : k < l.length) (h1 : 48 ≤ l[k].toNat) : (u8s ((digitsOf l).take k) ++ byteVals (l.drop k)).set k (.int .u8 ((l[k].toNat : Int) - 48)) = u8s ((digitsOf l).take (k + 1)) ++ byteVals (l.drop (k + 1)) := by
 have e : (u8s ((digitsOf l).take k)).length = k := by rw [u8s_len, List.length_take, digitsOf_len]; omega
 rw [List.set_append_right _ _ (by omega), e, Nat.sub_self, List.drop_eq_getElem_cons h, List.take_succ_eq_append_getElem (by rw [digitsOf_len]; exact h), u8s_append, List.append_assoc]
 congr 1
 have e2 : (digitsOf l)[k]'(by rw [digitsOf_len]; exact h) = l[k].toNat - 48 := by simp [digitsOf]
 have e3 : ((l[k].toNat - 48 : Nat) : Int) = (l[k].toNat : Int) - 48 := by omega
 rw [e2]
 simp only [u8s, List.map_cons, List.map_nil, e3]
 rfl
theorem ret_ib {a b : Int} {c d : Bool} (h : a = b) (h' : c = d) : Ending.returned (.tuple #[.int .i64 a, .bool c]) = Ending.returned (.tuple #[.int .i64 b, .bool d]) := by rw [h, h']
set_option maxRecDepth 100000 in
set_option maxHeartbeats 2000000 in
theorem dec_value_fit (minus : Bool) (whole rest : List UInt8) (w : World) (h1 : (whole.dropWhile (· == 48)).length ≤ 5) (h2 : rest.length ≤ 3000) (h3 : ∀ c ∈ whole, isDig c = true) (h4 : ∀ c ∈ rest, isDig c = true) :
    Calls Tryz.prog 120 #[.bool minus, .string (bs whole), .string (bs rest)] w fun e w' => e = .returned (.tuple #[.int .i64 (valueL minus whole rest).1, .bool (valueL minus whole rest).2]) ∧ Below w.heap.size w w' := by
  have hT := fun w => trimLeft0 whole w
  have hv : valueL minus whole rest = (let m := if minus then -((rounds 16 (natOf (whole.dropWhile (· == 48))) (digitsOf rest)).1 + (dbl (rounds 16 (natOf (whole.dropWhile (· == 48))) (digitsOf rest)).2).2) else ((rounds 16 (natOf (whole.dropWhile (· == 48))) (digitsOf rest)).1 + (dbl (rounds 16 (natOf (whole.dropWhile (· == 48))) (digitsOf rest)).2).2); (m, fitsB m)) := by
    unfold valueL rawL
    rw [if_neg (by omega)]
  have ht : ∀ c ∈ whole.dropWhile (· == 48), isDig c = true := fun c hc => h3 c (List.dropWhile_sublist _ |>.subset hc)
  clear h3
  generalize whole.dropWhile (· == 48) = t at *
  have hs := bs_size t
  have hs2 := bs_size rest
  have Hv := hid hv; have Ht := hid ht; have H4 := hid h4; clear hv ht h4
  go_enter func120, ntmps120
  go_wp2_with first | (go_at_call 135; go_must (refine (hT _).mono ?_); rintro e w1 ⟨rfl, rfl⟩) | (refine wpList_conv_bytes rfl _ _ _ _ rfl underlying9 underlying26 underlying5 _ rfl ?_; intro cap w1 hcap hrow hg hsz)
  have hb1 := below_of_grown hg
  have Hrow := hid hrow; clear hrow hg hT
  go_loop [8, 10, 21] (fun n _ i => ∃ k : Nat, k ≤ t.length ∧ i = .int .i64 k ∧ n = .int .i64 (natOf (t.take k) : Int)) (fun _ _ i => t.length - (intOf i).toNat)
  case atStart => exact ⟨0, Nat.zero_le _, rfl, rfl⟩
  case round =>
    obtain ⟨k, hk, rfl, rfl⟩ := hrel
    have hlt := natOf_take_lt t k h1 Ht.out
    by_cases hkl : k < t.length
    · have hstep := natOf_take t k hkl
      have hd := isDig_bounds (Ht.out t[k] (by simp))
      have hc := (Hrow.out k _ (byteVals_at t k hkl)).1
      have Hstep := hid hstep; clear hstep
      generalize natOf (t.take k) = N at *
      generalize t[k].toNat = c at *
      go_wp2
      go_round
      case rel => exact ⟨k + 1, by omega, by go_num, by rw [Hstep.out]; go_num⟩
      case measure => simp [intOf]; omega
    · obtain rfl : k = t.length := by omega
      rw [List.take_length] at hlt
      rw [List.take_length]
      clear Hrow
      go_wp2_with (refine wpList_conv_bytes rfl _ _ _ _ rfl underlying9 underlying26 underlying5 _ rfl ?_; intro cap2 w2 hcap2 hrow hg hsz2)
      have hb2 := btr hb1 (below_of_grown hg)
      rw [hsz] at hrow
      have hB : w.heap.size ≤ w.heap.size + 1 := by omega
      clear hcap hg hb1
      go_loopw [12, 36] (fun _ i wr => ∃ k : Nat, k ≤ rest.length ∧ i = .int .i64 k ∧ BRow wr (w.heap.size + 1) (u8s ((digitsOf rest).take k) ++ byteVals (rest.drop k)) ∧ Below w.heap.size w wr) (fun _ i _ => rest.length - (intOf i).toNat)
      case atStart => exact ⟨0, Nat.zero_le _, rfl, by simpa [u8s] using (show BRow w2 (w.heap.size + 1) (byteVals rest) from hrow), hb2⟩
      case round =>
        obtain ⟨k, hk, rfl, hrow2, hbel⟩ := hrel
        clear hrow hb2 hsz hsz2 hcap2
        by_cases hkl : k < rest.length
        · have hd := isDig_bounds (H4.out rest[k] (by simp))
          obtain ⟨hc, hfz⟩ := hrow2 k _ (mix_at rest k hkl)
          have hset := hrow2.set k (.int .u8 ((rest[k].toNat : Int) - 48)) (by
            have := (List.getElem?_eq_some_iff.1 (mix_at rest k hkl)).1; exact this)
          rw [mix_set rest k hkl hd.1] at hset
          have Hset := hid hset; clear hset hrow2
          generalize rest[k].toNat = c at *
          go_wp2
          go_roundw
          case rel => exact ⟨k + 1, by omega, by go_num, Hset.out, hbel.setCell hB _⟩
          case measure => simp [intOf]; omega
        · obtain rfl : k = rest.length := by omega
          have hrow3 : BRow wr (w.heap.size + 1) (u8s (digitsOf rest)) := by
            have e1 : (digitsOf rest).take rest.length = digitsOf rest := List.take_of_length_le (by rw [digitsOf_len]; omega)
            have e2 : rest.drop rest.length = [] := by simp
            rw [e1, e2] at hrow2
            simpa [byteVals] using hrow2
          have Hrow3 := hid hrow3; clear hrow2 hrow3
          have hdl := digitsOf_len rest
          have hdd := digitsOf_lt rest H4.out
          have Hdl := hid hdl; have Hdd := hid hdd; clear hdl hdd
          generalize digitsOf rest = d0 at *
          generalize natOf t = n0 at *
          obtain ⟨wo, rfl⟩ : ∃ wo : World, wo = wr := ⟨_, rfl⟩
          go_wp2
          go_loopw [8, 46] (fun n i wr => ∃ (k : Nat) (N : Int) (d : List Nat), k ≤ 16 ∧ i = .int .i64 k ∧ n = .int .i64 N ∧ 0 ≤ N ∧ N + 1 ≤ 100000 * 2 ^ k ∧ d.length = rest.length ∧ (∀ x ∈ d, x < 10) ∧ BRow wr (w.heap.size + 1) (u8s d) ∧ Below w.heap.size w wr ∧ rounds (16 - k) N d = rounds 16 n0 d0) (fun _ i _ => 16 - (intOf i).toNat)
          case atStart => exact ⟨0, n0, d0, by omega, rfl, rfl, by omega, by simp; omega, Hdl.out, Hdd.out, Hrow3.out, hbel, rfl⟩
          case round =>
            obtain ⟨k, N, d, hk, rfl, rfl, hN0, hN1, hdl, hdd, hrow, hbel2, hrr⟩ := hrel
            have hpow : (2 : Int) ^ k ≤ 65536 := by
              have h := Nat.pow_le_pow_right (show 0 < 2 by decide) hk
              have h2 : ((2 ^ k : Nat) : Int) ≤ ((2 ^ 16 : Nat) : Int) := by exact_mod_cast h
              simpa using h2
            have hN2 : N < 6553600000 := by omega
            have hcy := dbl_carry d hdd
            have hsz3 := hbel2.size
            have Hrr := hid hrr; have Hdl2 := hid hdl; have Hdd2 := hid hdd; have HN1 := hid hN1
            have Hrow := hid hrow
            clear hrr hdl hdd hN1 hrow hbel hpow
            by_cases hk16 : k < 16
            · go_wp2_with (go_at_call 136; go_must (refine (dec_double' _ _ _ d _ Hdl2.out Hrow.out Hdd2.out h2 w.heap.size hB).mono ?_); rintro e w4 ⟨rfl, hrow4, hb4⟩)
              go_roundw
              case rel =>
                refine ⟨k + 1, 2 * N + (dbl d).2, (dbl d).1, by omega, by go_num, by go_num, by omega, ?_, by rw [dbl_len]; exact Hdl2.out, dbl_digits d, hrow4, hbel2.trans hb4, ?_⟩
                · have := HN1.out
                  rw [Int.pow_succ]; omega
                · rw [← Hrr.out, show 16 - k = (16 - (k + 1)) + 1 from by omega]; rfl
              case measure => simp [intOf]; omega
            · obtain rfl : k = 16 := by omega
              have hrd : (rounds 16 n0 d0) = (N, d) := by rw [← Hrr.out]; rfl
              have Hrd := hid hrd; clear hrd
              cases minus with
              | true =>
                go_wp2_with first | (go_at_call 136; go_must (refine (dec_double' _ _ _ d _ Hdl2.out Hrow.out Hdd2.out h2 w.heap.size hB).mono ?_); rintro e w4 ⟨rfl, hrow4, hb4⟩) | (go_at_call 137; go_must (refine (fix_Fits _ _).mono ?_); rintro e w5 ⟨rfl, rfl⟩)
                go_ret2
                refine ⟨?_, hbel2.trans hb4⟩
                rw [Hv.out, Hrd.out]; rfl
              | false =>
                go_wp2_with first | (go_at_call 136; go_must (refine (dec_double' _ _ _ d _ Hdl2.out Hrow.out Hdd2.out h2 w.heap.size hB).mono ?_); rintro e w4 ⟨rfl, hrow4, hb4⟩) | (go_at_call 137; go_must (refine (fix_Fits _ _).mono ?_); rintro e w5 ⟨rfl, rfl⟩)
                go_ret2
                refine ⟨?_, hbel2.trans hb4⟩
                rw [Hv.out, Hrd.out]; rfl
end
section
theorem ext_take (l : List UInt8) (n : Nat) : (bs l).extract 0 n = bs (l.take n) := by rw [bs_extract]; simp
theorem ext_drop (l : List UInt8) (n m : Nat) (h : m = l.length) : (bs l).extract n m = bs (l.drop n) := by
 subst h; rw [bs_extract, List.take_of_length_le (by simp)]
end
section
/-- digits ahead of the point, and those behind it -/
def wholeD (digits : List UInt8) (p : Int) : List UInt8 := digits.take p.toNat ++ List.replicate (p.toNat - digits.length) 48
def restD (digits : List UInt8) (p : Int) : List UInt8 := List.replicate (-p).toNat 48 ++ digits.drop p.toNat
theorem natOf_mono (a b : List UInt8) : natOf a ≤ natOf (a ++ b) := by
 unfold natOf
 rw [List.foldl_append]
 generalize a.foldl (fun n c => 10 * n + (c.toNat - 48)) 0 = n
 induction b generalizing n with
 | nil => simp
 | cons c r ih =>
  rw [List.foldl_cons]
  exact Nat.le_trans (by omega) (ih _)
theorem natOf_take_le (l : List UInt8) (k : Nat) : natOf (l.take k) ≤ natOf l := by
 conv => rhs; rw [← List.take_append_drop k l]
 exact natOf_mono _ _
theorem natOf_trim (l : List UInt8) : natOf (l.dropWhile (· == 48)) = natOf l := by
 induction l with
 | nil => rfl
 | cons c r ih =>
  rw [List.dropWhile_cons]
  split
  ·
   next h =>
   rw [ih]
   have : c = 48 := by simpa using h
   subst this
   simp [natOf]
  ·
   rfl
theorem natOf_ge (l : List UInt8) (n : Nat) : n * 10 ^ l.length ≤ l.foldl (fun n c => 10 * n + (c.toNat - 48)) n := by
 induction l generalizing n with
 | nil => simp
 | cons c r ih =>
  rw [List.foldl_cons, List.length_cons, Nat.pow_succ]
  refine Nat.le_trans ?_ (ih _)
  rw [Nat.mul_comm (10 ^ r.length) 10, ← Nat.mul_assoc]
  exact Nat.mul_le_mul_right _ (by omega)
theorem trim_long (l : List UInt8) (h : ∀ c ∈ l, isDig c = true) : 5 < (l.dropWhile (· == 48)).length ↔ 99999 < natOf l := by
 rw [← natOf_trim l]
 have ht : ∀ c ∈ l.dropWhile (· == 48), isDig c = true := fun c hc => h c (List.dropWhile_sublist _ |>.subset hc)
 constructor
 ·
  intro hl
  cases hd : l.dropWhile (· == 48) with
  | nil => rw [hd] at hl; simp at hl
  | cons c r =>
   have hc : (c == 48) = false := by
    have := List.head_dropWhile_not (p := (· == 48)) (l := l) (by rw [hd]; simp)
    simpa [hd] using this
   have hc1 := isDig_bounds (ht c (by rw [hd]; simp))
   have hc2 : c ≠ 48 := by simpa using hc
   have hc3 : 1 ≤ c.toNat - 48 := by
    rcases Nat.lt_or_ge 48 c.toNat with h' | h'
    ·
     omega
    ·
     exact absurd (UInt8.toNat_inj.1 (by show c.toNat = 48; omega)) hc2
   rw [hd] at hl
   simp only [List.length_cons] at hl
   have h1 := natOf_ge r (10 * 0 + (c.toNat - 48))
   have h2 : 1 * 10 ^ 5 ≤ (10 * 0 + (c.toNat - 48)) * 10 ^ r.length := Nat.mul_le_mul (by omega) (Nat.pow_le_pow_right (by decide) (by omega))
   unfold natOf
   rw [List.foldl_cons]
   omega
 ·
  intro hn
  rcases Nat.lt_or_ge 5 (l.dropWhile (· == 48)).length with h' | h'
  ·
   exact h'
  ·
   have h1 := natOf_lt _ ht
   have h2 : 10 ^ (l.dropWhile (· == 48)).length ≤ 10 ^ 5 := Nat.pow_le_pow_right (by decide) h'
   omega
theorem rounds_digits (k : Nat) : ∀ (n : Int) (d : List Nat), (∀ x ∈ d, x < 10) → ∀ x ∈ (rounds k n d).2, x < 10 := by
 induction k with
 | zero => intro n d h; exact h
 | succ k ih => intro n d h; exact ih _ _ (dbl_digits d)
end
section
theorem dec_value (minus : Bool) (whole rest : List UInt8) (w : World) (h2 : rest.length ≤ 3000) (h3 : ∀ c ∈ whole, isDig c = true) (h4 : ∀ c ∈ rest, isDig c = true) :
    Calls Tryz.prog 120 #[.bool minus, .string (bs whole), .string (bs rest)] w fun e w' => e = .returned (.tuple #[.int .i64 (valueL minus whole rest).1, .bool (valueL minus whole rest).2]) ∧ Below w.heap.size w w' := by
  by_cases hb : 5 < (whole.dropWhile (· == 48)).length
  · have hv : valueL minus whole rest = (0, false) := by unfold valueL rawL; rw [if_pos hb]
    rw [hv]
    exact dec_value_big minus whole rest w hb
  · exact dec_value_fit minus whole rest w (by omega) h2 h3 h4
/-- the number of a text, or false -/
def parseL (l : List UInt8) : Int × Bool :=
 if mantOk (signedL l).2 then
  (if (valueL (signedL l).1 (cutDot (signedL l).2).1 (cutDot (signedL l).2).2.1).2 then ((valueL (signedL l).1 (cutDot (signedL l).2).1 (cutDot (signedL l).2).2.1).1, true) else (0, false))
 else (0, false)
theorem signedL_len (l : List UInt8) : (signedL l).2.length ≤ l.length := by
 cases l with
 | nil => simp [signedL]
 | cons c r =>
  simp only [signedL]
  split
  ·
   simp
  ·
   split <;> simp
theorem mantOk_digits (l : List UInt8) (h : mantOk l = true) : (∀ c ∈ (cutDot l).1, isDig c = true) ∧ (∀ c ∈ (cutDot l).2.1, isDig c = true) := by
 simp only [mantOk, Bool.and_eq_true, List.all_eq_true] at h
 exact ⟨h.1.1, h.1.2⟩
theorem dec_Parse_long (l : List UInt8) (w : World) (hl : 64 < l.length) :
  Calls Tryz.prog 106 #[.string (bs l)] w fun e w' => e = .returned (.tuple #[.int .i64 0, .bool false]) ∧ w = w' := by
 have hs := bs_size l
 go_enter func106, ntmps106
 go_wp2_with fail
 go_ret2
 exact ⟨rfl, rfl⟩
set_option maxHeartbeats 1000000 in
theorem dec_Parse_short (l : List UInt8) (w : World) (hl : l.length ≤ 64) :
  Calls Tryz.prog 106 #[.string (bs l)] w fun e w' => e = .returned (.tuple #[.int .i64 (parseL l).1, .bool (parseL l).2]) ∧ Below w.heap.size w w' := by
 have hs := bs_size l
 have hS := fun w => dec_signed l w (by omega)
 have hlen := signedL_len l
 have hP : parseL l = (if mantOk (signedL l).2 then (if (valueL (signedL l).1 (cutDot (signedL l).2).1 (cutDot (signedL l).2).2.1).2 then ((valueL (signedL l).1 (cutDot (signedL l).2).1 (cutDot (signedL l).2).2.1).1, true) else (0, false)) else (0, false)) := rfl
 generalize signedL l = sr at *
 obtain ⟨m, r⟩ := sr
 simp only at hP hS hlen
 have hM := fun w => dec_mantissa r w (by omega)
 have hcl := cutDot_len r
 have hok := mantOk_digits r
 generalize mantOk r = ok at *
 generalize cutDot r = p at *
 obtain ⟨A, B, f⟩ := p
 simp only at hP hM hok hcl
 cases ok with
 | false =>
  rw [if_neg (by decide)] at hP
  have HP := hid hP; clear hP hok
  go_enter func106, ntmps106
  go_wp2_with first | (go_at_call 118; go_must (refine (hS _).mono ?_); rintro e w1 ⟨rfl, hb1⟩) | (go_at_call 119; go_must (refine (hM _).mono ?_); rintro e w2 ⟨rfl, hb2⟩)
  go_ret2
  exact ⟨by rw [HP.out]; rfl, btr hb1 hb2⟩
 | true =>
  rw [if_pos rfl] at hP
  obtain ⟨hA, hB⟩ := hok rfl
  have hV := fun w => dec_value m A B w (by omega) hA hB
  have HA := hid hA; have HB := hid hB; clear hok hA hB
  generalize valueL m A B = v at *
  obtain ⟨n, fit⟩ := v
  simp only at hP hV
  have HP := hid hP; clear hP
  cases fit
  all_goals
   go_enter func106, ntmps106
   go_wp2_with first | (go_at_call 118; go_must (refine (hS _).mono ?_); rintro e w1 ⟨rfl, hb1⟩) | (go_at_call 119; go_must (refine (hM _).mono ?_); rintro e w2 ⟨rfl, hb2⟩) | (go_at_call 120; go_must (refine (hV _).mono ?_); rintro e w3 ⟨rfl, hb3⟩)
   go_ret2
   exact ⟨by rw [HP.out]; rfl, btr (btr hb1 hb2) hb3⟩
theorem wholeD_digits (digits : List UInt8) (p : Int) (h : ∀ c ∈ digits, isDig c = true) : ∀ c ∈ wholeD digits p, isDig c = true := by
 intro c hc
 rw [wholeD, List.mem_append] at hc
 rcases hc with hc | hc
 ·
  exact h c (List.mem_of_mem_take hc)
 ·
  rw [List.mem_replicate] at hc; rw [hc.2]; rfl
theorem restD_digits (digits : List UInt8) (p : Int) (h : ∀ c ∈ digits, isDig c = true) : ∀ c ∈ restD digits p, isDig c = true := by
 intro c hc
 rw [restD, List.mem_append] at hc
 rcases hc with hc | hc
 ·
  rw [List.mem_replicate] at hc; rw [hc.2]; rfl
 ·
  exact h c (List.mem_of_mem_drop hc)
/-- the sign, and does it fit -/
def signL2 (m : Bool) (o : Option Int) : Int × Bool :=
 match o with
 | none => (0, false)
 | some n => if fitsB (if m then -n else n) then (if m then -n else n, true) else (0, false)
theorem parseL_eq (l : List UInt8) : parseL l = if mantOk (signedL l).2 then signL2 (signedL l).1 (rawL (cutDot (signedL l).2).1 (cutDot (signedL l).2).2.1) else (0, false) := by
 unfold parseL
 split
 ·
  unfold valueL signL2
  cases rawL (cutDot (signedL l).2).1 (cutDot (signedL l).2).2.1 with
  | none => rfl
  | some n =>
   simp only
 ·
  rfl
end
section
/-- a digit of any base; 99: none -/
def hexN (c : UInt8) : Nat :=
 if 48 ≤ c.toNat ∧ c.toNat ≤ 57 then c.toNat - 48 else if 97 ≤ c.toNat ∧ c.toNat ≤ 122 then c.toNat - 87 else if 65 ≤ c.toNat ∧ c.toNat ≤ 90 then c.toNat - 55 else 99
theorem hexN_le (c : UInt8) : hexN c ≤ 99 := by unfold hexN; split <;> (try split) <;> (try split) <;> omega
theorem ret_int {k : IntKind} {a b : Int} (h : a = b) : Ending.returned (.int k a) = .returned (.int k b) := by rw [h]
set_option maxHeartbeats 1000000 in
theorem dec_digit (c : UInt8) (w : World) :
    Calls Tryz.prog 138 #[.int .u8 (c.toNat : Int)] w fun e w' => e = .returned (.int .i64 (hexN c)) ∧ w = w' := by
  have hc : c.toNat < 256 := UInt8.toNat_lt c
  have hh : hexN c = if 48 ≤ c.toNat ∧ c.toNat ≤ 57 then c.toNat - 48 else if 97 ≤ c.toNat ∧ c.toNat ≤ 122 then c.toNat - 87 else if 65 ≤ c.toNat ∧ c.toNat ≤ 90 then c.toNat - 55 else 99 := rfl
  have Hh := hid hh; clear hh
  generalize c.toNat = n at *
  by_cases h1 : 48 ≤ n ∧ n ≤ 57
  · obtain ⟨h1a, h1b⟩ := h1
    go_enter func138, ntmps138
    go_wp2
    go_ret
    exact ⟨ret_int (by rw [Hh.out, if_pos ⟨h1a, h1b⟩]; omega), rfl⟩
  · have h1' : n < 48 ∨ 57 < n := by omega
    by_cases h2 : 97 ≤ n ∧ n ≤ 122
    · obtain ⟨h2a, h2b⟩ := h2
      have H1 := hid h1; clear h1 h1'
      go_enter func138, ntmps138
      go_wp2
      go_ret
      exact ⟨ret_int (by rw [Hh.out, if_neg H1.out, if_pos ⟨h2a, h2b⟩]; omega), rfl⟩
    · have h2' : n < 97 ∨ 122 < n := by omega
      by_cases h3 : 65 ≤ n ∧ n ≤ 90
      · obtain ⟨h3a, h3b⟩ := h3
        have H1 := hid h1; have H2 := hid h2; clear h1 h1' h2 h2'
        go_enter func138, ntmps138
        go_wp2
        go_ret
        exact ⟨ret_int (by rw [Hh.out, if_neg H1.out, if_neg H2.out, if_pos ⟨h3a, h3b⟩]; omega), rfl⟩
      · have h3' : n < 65 ∨ 90 < n := by omega
        have H1 := hid h1; have H2 := hid h2; have H3 := hid h3; clear h1 h2 h3
        go_enter func138, ntmps138
        go_wp2
        all_goals
          go_ret
          exact ⟨ret_int (by rw [Hh.out, if_neg H1.out, if_neg H2.out, if_neg H3.out]; rfl), rfl⟩
/-- digits, held at a bound -/
def satOf (l : List UInt8) : Nat := l.foldl (fun n c => min (10 * n + (c.toNat - 48)) 1099511627776) 0
/-- a number of 32 bits, or false -/
def wholeT (l : List UInt8) : Int × Bool :=
 if (signedL l).2.isEmpty || !(signedL l).2.all isDig then (0, false)
 else let n : Int := if (signedL l).1 then -(satOf (signedL l).2 : Int) else satOf (signedL l).2
  (n, decide (-2147483648 ≤ n) && decide (n ≤ 2147483647))
/-- the number behind an e -/
def powerL (l : List UInt8) : Int × Bool :=
 if (signedL l).2.isEmpty || decide (3 < (signedL l).2.length) || !(signedL l).2.all isDig then (0, false)
 else (if (signedL l).1 then -(natOf (signedL l).2 : Int) else natOf (signedL l).2, true)
theorem satOf_snoc (l : List UInt8) (c : UInt8) : satOf (l ++ [c]) = min (10 * satOf l + (c.toNat - 48)) 1099511627776 := by simp [satOf]
theorem satOf_take (l : List UInt8) (k : Nat) (h : k < l.length) : satOf (l.take (k + 1)) = min (10 * satOf (l.take k) + (l[k].toNat - 48)) 1099511627776 := by
 rw [List.take_succ_eq_append_getElem h, satOf_snoc]
theorem satOf_from (l : List UInt8) : ∀ n, n ≤ 1099511627776 → l.foldl (fun n c => min (10 * n + (c.toNat - 48)) 1099511627776) n = min (l.foldl (fun n c => 10 * n + (c.toNat - 48)) n) 1099511627776 := by
 induction l with
 | nil => intro n h; simp; omega
 | cons c r ih =>
  intro n h
  rw [List.foldl_cons, List.foldl_cons, ih _ (by omega)]
  by_cases hb : 10 * n + (c.toNat - 48) ≤ 1099511627776
  ·
   rw [Nat.min_eq_left hb]
  ·
   have h1 := natOf_ge r (min (10 * n + (c.toNat - 48)) 1099511627776)
   have h2 := natOf_ge r (10 * n + (c.toNat - 48))
   have h3 : 1 ≤ 10 ^ r.length := Nat.one_le_pow _ _ (by decide)
   have e : min (10 * n + (c.toNat - 48)) 1099511627776 = 1099511627776 := by omega
   rw [e] at h1 ⊢
   have h4 : 1099511627776 * 1 ≤ 1099511627776 * 10 ^ r.length := Nat.mul_le_mul_left _ h3
   have h5 : 1099511627776 * 10 ^ r.length ≤ (10 * n + (c.toNat - 48)) * 10 ^ r.length := Nat.mul_le_mul_right _ (by omega)
   omega
theorem satOf_eq (l : List UInt8) : satOf l = min (natOf l) 1099511627776 := satOf_from l 0 (by omega)
theorem ret_ib2 {a b : Int} {c d : Bool} (h : a = b) (h' : c = d) : Ending.returned (.tuple #[.int .i64 a, .bool c]) = Ending.returned (.tuple #[.int .i64 b, .bool d]) := by rw [h, h']
set_option maxRecDepth 100000 in
set_option maxHeartbeats 2000000 in
theorem dec_whole (l : List UInt8) (w : World) (hl : l.length ≤ 1000) :
    Calls Tryz.prog 122 #[.string (bs l)] w fun e w' => e = .returned (.tuple #[.int .i64 (wholeT l).1, .bool (wholeT l).2]) ∧ Below w.heap.size w w' := by
  have hS := fun w => dec_signed l w (by omega)
  have hlen := signedL_len l
  have hW : wholeT l = (if (signedL l).2.isEmpty || !(signedL l).2.all isDig then (0, false) else let n : Int := if (signedL l).1 then -(satOf (signedL l).2 : Int) else satOf (signedL l).2
    (n, decide (-2147483648 ≤ n) && decide (n ≤ 2147483647))) := rfl
  generalize signedL l = sr at *
  obtain ⟨m, r⟩ := sr
  simp only at hW hS hlen
  have hs := bs_size r
  have hT := bs_toList
  cases r with
  | nil =>
    have HW := hid hW; clear hW
    go_enter func122, ntmps122
    go_wp2_with (go_at_call 118; go_must (refine (hS _).mono ?_); rintro e w1 ⟨rfl, hb1⟩)
    go_ret2
    exact ⟨by rw [HW.out]; rfl, hb1⟩
  | cons c0 r0 =>
    have hne := bs_ne c0 r0
    have hI : (c0 :: r0).isEmpty = false := rfl
    rw [hI, Bool.false_or] at hW
    clear hI hT
    have hPl := fun w => dec_plain (c0 :: r0) w (by omega)
    generalize c0 :: r0 = r at *
    cases hall : r.all isDig with
    | false =>
      rw [hall, if_pos (by decide)] at hW
      rw [hall] at hPl
      have HW := hid hW; clear hW hall
      go_enter func122, ntmps122
      go_wp2_with first | (go_at_call 118; go_must (refine (hS _).mono ?_); rintro e w1 ⟨rfl, hb1⟩) | (go_at_call 134; go_must (refine (hPl _).mono ?_); rintro e w2 ⟨rfl, hb2⟩)
      go_ret2
      exact ⟨by rw [HW.out]; rfl, btr hb1 hb2⟩
    | true =>
      rw [hall, if_neg (by decide)] at hW
      rw [hall] at hPl
      have hdig : ∀ c ∈ r, isDig c = true := List.all_eq_true.1 hall
      have HW := hid hW; have Hdig := hid hdig; clear hW hdig hall
      go_enter func122, ntmps122
      go_wp2_with first | (go_at_call 118; go_must (refine (hS _).mono ?_); rintro e w1 ⟨rfl, hb1⟩) | (go_at_call 134; go_must (refine (hPl _).mono ?_); rintro e w2 ⟨rfl, hb2⟩) | (refine wpList_conv_bytes rfl _ _ _ _ rfl underlying9 underlying26 underlying5 _ rfl ?_; intro cap w3 hcap hrow hg hsz)
      have hb3 := btr (btr hb1 hb2) (below_of_grown hg)
      have Hrow := hid hrow; clear hrow hg hb1 hb2 hS hPl
      go_loop [5, 23] (fun n i => ∃ k : Nat, k ≤ r.length ∧ i = .int .i64 k ∧ n = .int .i64 (satOf (r.take k) : Int)) (fun _ i => r.length - (intOf i).toNat)
      case atStart => exact ⟨0, Nat.zero_le _, rfl, rfl⟩
      case round =>
        obtain ⟨k, hk, rfl, rfl⟩ := hrel
        have hle : satOf (r.take k) ≤ 1099511627776 := by rw [satOf_eq]; omega
        by_cases hkl : k < r.length
        · have hstep := satOf_take r k hkl
          have hd := isDig_bounds (Hdig.out r[k] (by simp))
          have hc := (Hrow.out k _ (byteVals_at r k hkl)).1
          have Hstep := hid hstep; clear hstep
          generalize satOf (r.take k) = N at *
          generalize r[k].toNat = c at *
          go_wp2
          go_round
          case rel => exact ⟨k + 1, by omega, by go_num, by rw [Hstep.out]; go_num⟩
          case measure => simp [intOf]; omega
        · obtain rfl : k = r.length := by omega
          rw [List.take_length] at hle ⊢
          clear Hrow
          generalize satOf r = N at *
          cases m
          all_goals
            go_wp2
            all_goals
              go_ret2
              refine ⟨?_, hb3⟩
              rw [HW.out]
              refine ret_ib2 rfl ?_
              rw [Bool.eq_iff_iff]
              simp
              try omega
set_option maxRecDepth 100000 in
set_option maxHeartbeats 2000000 in
theorem dec_power (l : List UInt8) (w : World) (hl : l.length ≤ 1000) :
    Calls Tryz.prog 124 #[.string (bs l)] w fun e w' => e = .returned (.tuple #[.int .i64 (powerL l).1, .bool (powerL l).2]) ∧ Below w.heap.size w w' := by
  have hS := fun w => dec_signed l w (by omega)
  have hlen := signedL_len l
  have hW : powerL l = (if (signedL l).2.isEmpty || decide (3 < (signedL l).2.length) || !(signedL l).2.all isDig then (0, false) else (if (signedL l).1 then -(natOf (signedL l).2 : Int) else natOf (signedL l).2, true)) := rfl
  generalize signedL l = sr at *
  obtain ⟨m, r⟩ := sr
  simp only at hW hS hlen
  have hs := bs_size r
  have hT := bs_toList
  cases r with
  | nil =>
    have HW := hid hW; clear hW
    go_enter func124, ntmps124
    go_wp2_with (go_at_call 118; go_must (refine (hS _).mono ?_); rintro e w1 ⟨rfl, hb1⟩)
    go_ret2
    exact ⟨by rw [HW.out]; rfl, hb1⟩
  | cons c0 r0 =>
    have hne := bs_ne c0 r0
    have hI : (c0 :: r0).isEmpty = false := rfl
    rw [hI, Bool.false_or] at hW
    clear hI hT
    have hPl := fun w => dec_plain (c0 :: r0) w (by omega)
    generalize c0 :: r0 = r at *
    by_cases h3 : 3 < r.length
    · rw [decide_eq_true h3, Bool.true_or, if_pos rfl] at hW
      have HW := hid hW; clear hW
      go_enter func124, ntmps124
      go_wp2_with first | (go_at_call 118; go_must (refine (hS _).mono ?_); rintro e w1 ⟨rfl, hb1⟩) | (go_at_call 134; go_must (refine (hPl _).mono ?_); rintro e w2 ⟨rfl, hb2⟩)
      go_ret2
      exact ⟨by rw [HW.out]; rfl, hb1⟩
    · rw [decide_eq_false h3, Bool.false_or] at hW
      cases hall : r.all isDig with
      | false =>
        rw [hall, if_pos (by decide)] at hW
        rw [hall] at hPl
        have HW := hid hW; clear hW hall
        go_enter func124, ntmps124
        go_wp2_with first | (go_at_call 118; go_must (refine (hS _).mono ?_); rintro e w1 ⟨rfl, hb1⟩) | (go_at_call 134; go_must (refine (hPl _).mono ?_); rintro e w2 ⟨rfl, hb2⟩)
        go_ret2
        exact ⟨by rw [HW.out]; rfl, btr hb1 hb2⟩
      | true =>
        rw [hall, if_neg (by decide)] at hW
        rw [hall] at hPl
        have hdig : ∀ c ∈ r, isDig c = true := List.all_eq_true.1 hall
        have HW := hid hW; have Hdig := hid hdig; clear hW hdig hall
        go_enter func124, ntmps124
        go_wp2_with first | (go_at_call 118; go_must (refine (hS _).mono ?_); rintro e w1 ⟨rfl, hb1⟩) | (go_at_call 134; go_must (refine (hPl _).mono ?_); rintro e w2 ⟨rfl, hb2⟩) | (refine wpList_conv_bytes rfl _ _ _ _ rfl underlying9 underlying26 underlying5 _ rfl ?_; intro cap w3 hcap hrow hg hsz)
        have hb3 := btr (btr hb1 hb2) (below_of_grown hg)
        have Hrow := hid hrow; clear hrow hg hb1 hb2 hS hPl
        have hnat : ∀ k, natOf (r.take k) < 1000 := by
          intro k
          have h1 := natOf_take_le r k
          have h2 := natOf_lt r Hdig.out
          have h4 : 10 ^ r.length ≤ 10 ^ 3 := Nat.pow_le_pow_right (by decide) (by omega)
          omega
        have Hnat := hid hnat; clear hnat
        go_loop [5, 28] (fun n i => ∃ k : Nat, k ≤ r.length ∧ i = .int .i64 k ∧ n = .int .i64 (natOf (r.take k) : Int)) (fun _ i => r.length - (intOf i).toNat)
        case atStart => exact ⟨0, Nat.zero_le _, rfl, rfl⟩
        case round =>
          obtain ⟨k, hk, rfl, rfl⟩ := hrel
          have hle := Hnat.out k
          by_cases hkl : k < r.length
          · have hstep := natOf_take r k hkl
            have hd := isDig_bounds (Hdig.out r[k] (by simp))
            have hc := (Hrow.out k _ (byteVals_at r k hkl)).1
            have Hstep := hid hstep; clear hstep
            generalize natOf (r.take k) = N at *
            generalize r[k].toNat = c at *
            go_wp2
            go_round
            case rel => exact ⟨k + 1, by omega, by go_num, by rw [Hstep.out]; go_num⟩
            case measure => simp [intOf]; omega
          · obtain rfl : k = r.length := by omega
            rw [List.take_length] at hle ⊢
            clear Hrow Hnat
            generalize natOf r = N at *
            cases m
            all_goals
              go_wp2
              go_ret2
              exact ⟨by rw [HW.out]; rfl, hb3⟩
theorem repeat_one (c : UInt8) (k : Nat) : Lib.repeatL [c] k = List.replicate k c := by
 induction k with
 | zero => rfl
 | succ k ih => rw [Lib.repeatL, ih]; rfl
theorem zeros (k : Nat) (w : World) (hk : k ≤ 100000) :
  Calls Tryz.prog 140 #[.string ⟨#[48]⟩, .int .i64 k] w fun e w' => e = .returned (.string (bs (List.replicate k 48))) ∧ Below w.heap.size w w' := by
 rw [← repeat_one]
 exact Tryz.strings_Repeat ⟨#[48]⟩ k w (by omega) (by show 1 * k ≤ _; omega)
theorem ret_ss {a b a' b' : ByteArray} (h1 : a = a') (h2 : b = b') : Ending.returned (.tuple #[.string a, .string b]) = Ending.returned (.tuple #[.string a', .string b']) := by
 rw [h1, h2]
set_option maxHeartbeats 1000000 in
theorem dec_shift (A B : List UInt8) (k : Int) (w : World) (hA : A.length + B.length ≤ 1000) (hk : -2000 ≤ k) (hk2 : k ≤ 2000) :
    Calls Tryz.prog 125 #[.string (bs A), .string (bs B), .int .i64 k] w fun e w' => e = .returned (.tuple #[.string (bs (wholeD (A ++ B) (A.length + k))), .string (bs (restD (A ++ B) (A.length + k)))]) ∧ Below w.heap.size w w' := by
  have sA := bs_size A
  have sB := bs_size B
  have hcat := bs_append A B
  have hcs : (bs (A ++ B)).size = A.length + B.length := by rw [bs_size]; simp
  have hcl : (A ++ B).length = A.length + B.length := by simp
  by_cases h1 : (A.length : Int) + k < 0
  · have hZ := fun w => zeros (-((A.length : Int) + k)).toNat w (by omega)
    have e1 : (((-((A.length : Int) + k)).toNat : Nat) : Int) = -((A.length : Int) + k) := by omega
    rw [e1] at hZ
    have eW : wholeD (A ++ B) (A.length + k) = [] := by
      unfold wholeD
      have : ((A.length : Int) + k).toNat = 0 := by omega
      rw [this]; simp
    have eR : restD (A ++ B) (A.length + k) = List.replicate (-((A.length : Int) + k)).toNat 48 ++ (A ++ B) := by
      unfold restD
      have : ((A.length : Int) + k).toNat = 0 := by omega
      rw [this]; rfl
    have hzs := bs_size (List.replicate (-((A.length : Int) + k)).toNat (48 : UInt8))
    rw [List.length_replicate] at hzs
    have hzs2 : (bs (List.replicate (-((A.length : Int) + k)).toNat (48 : UInt8))).size ≤ 3000 := by rw [hzs]; omega
    have EW := hid eW; have ER := hid eR; clear eW eR e1 hzs
    generalize List.replicate (-((A.length : Int) + k)).toNat (48 : UInt8) = Z at *
    have hcat2 := bs_append Z (A ++ B)
    have Hcat2 := hid hcat2; clear hcat2 hcl
    generalize A ++ B = C at *
    go_enter func125, ntmps125
    go_wp2_with (go_at_call 140; go_must (refine (hZ _).mono ?_); rintro e w1 ⟨rfl, hb1⟩)
    go_ret2
    exact ⟨ret_ss (by rw [EW.out]; rfl) (by rw [ER.out]; exact Hcat2.out), hb1⟩
  · by_cases h2 : (A.length : Int) + (B.length : Int) < (A.length : Int) + k
    · have hZ := fun w => zeros (((A.length : Int) + k) - ((A.length : Int) + (B.length : Int))).toNat w (by omega)
      have e1 : (((((A.length : Int) + k) - ((A.length : Int) + (B.length : Int))).toNat : Nat) : Int) = ((A.length : Int) + k) - ((A.length : Int) + (B.length : Int)) := by omega
      rw [e1] at hZ
      have hzl : (A ++ B ++ List.replicate (((A.length : Int) + k) - ((A.length : Int) + (B.length : Int))).toNat (48 : UInt8)).length = ((A.length : Int) + k).toNat := by
        simp; omega
      have eW : wholeD (A ++ B) (A.length + k) = A ++ B ++ List.replicate (((A.length : Int) + k) - ((A.length : Int) + (B.length : Int))).toNat 48 := by
        unfold wholeD
        rw [List.take_of_length_le (by rw [hcl]; omega)]
        congr 2; rw [hcl]; omega
      have eR : restD (A ++ B) (A.length + k) = [] := by
        unfold restD
        have : (-((A.length : Int) + k)).toNat = 0 := by omega
        rw [this, List.drop_eq_nil_of_le (by rw [hcl]; omega)]; rfl
      have hzs : (bs (List.replicate (((A.length : Int) + k) - ((A.length : Int) + (B.length : Int))).toNat (48 : UInt8))).size ≤ 3000 := by rw [bs_size]; simp; omega
      have EW := hid eW; have ER := hid eR; clear eW eR
      generalize List.replicate (((A.length : Int) + k) - ((A.length : Int) + (B.length : Int))).toNat (48 : UInt8) = Z at *
      have hcat2 := bs_append (A ++ B) Z
      have hc2s := bs_size (A ++ B ++ Z)
      have x1 := ext_take (A ++ B ++ Z) ((A.length : Int) + k).toNat
      have x2 := ext_drop (A ++ B ++ Z) ((A.length : Int) + k).toNat ((A.length : Int) + k).toNat hzl.symm
      rw [← hzl, List.take_length, hzl] at x1
      rw [← hzl, List.drop_length, hzl] at x2
      rw [hzl] at hc2s
      clear e1 hcl
      have hat : ((((A.length : Int) + k).toNat : Nat) : Int) = (A.length : Int) + k := by omega
      generalize A ++ B = C at *
      generalize C ++ Z = D at *
      clear hzl
      go_enter func125, ntmps125
      go_wp2_with (go_at_call 140; go_must (refine (hZ _).mono ?_); rintro e w1 ⟨rfl, hb1⟩)
      have X1 := hid x1; have X2 := hid x2; clear x1 x2
      go_quiet (fail)
      go_wp2
      go_ret2
      exact ⟨ret_ss (by rw [EW.out]; exact X1.out) (by rw [ER.out]; rfl), hb1.trans (bdrewN _ _ |>.mono hb1.size)⟩
    · have eW : wholeD (A ++ B) (A.length + k) = (A ++ B).take ((A.length : Int) + k).toNat := by
        unfold wholeD
        rw [show ((A.length : Int) + k).toNat - (A ++ B).length = 0 from by rw [hcl]; omega]; simp
      have eR : restD (A ++ B) (A.length + k) = (A ++ B).drop ((A.length : Int) + k).toNat := by
        unfold restD
        have : (-((A.length : Int) + k)).toNat = 0 := by omega
        rw [this]; rfl
      have x1 := ext_take (A ++ B) ((A.length : Int) + k).toNat
      have x2 := ext_drop (A ++ B) ((A.length : Int) + k).toNat (A.length + B.length) hcl.symm
      have EW := hid eW; have ER := hid eR; have X1 := hid x1; have X2 := hid x2; clear eW eR x1 x2 hcl
      generalize A ++ B = C at *
      go_enter func125, ntmps125
      go_wp2_with fail
      go_quiet (fail)
      go_wp2
      go_ret2
      exact ⟨ret_ss (by rw [EW.out]; exact X1.out) (by rw [ER.out]; exact X2.out), bdrewN _ _⟩
end
section
/-- what a call that only makes memory leaves alone, cell by cell -/
theorem bcell {W w1 : World} (hb : Below W.heap.size W w1) : (∀ b o, b < W.heap.size → w1.cell? ⟨b, o, none⟩ = W.cell? ⟨b, o, none⟩) ∧ (∀ b o, b < W.heap.size → w1.frozen? ⟨b, o, none⟩ = W.frozen? ⟨b, o, none⟩) :=
 ⟨fun b o h => hb.cell (p := ⟨b, o, none⟩) h, fun b o h => hb.frozen (p := ⟨b, o, none⟩) h⟩
theorem balloc {w w1 : World} {o : Obj} (hb : Below (w.alloc o).heap.size (w.alloc o) w1) : Below w.heap.size w w1 :=
 ((Below.refl _ _).alloc (Nat.le_refl _) o).trans (hb.mono (by simp))
theorem bset3 {w w1 : World} (hb : Below w.heap.size w w1) (a b c : Value) : Below w.heap.size w (((w1.setCell ⟨w.heap.size, 0, none⟩ a).setCell ⟨w.heap.size, 1, none⟩ b).setCell ⟨w.heap.size, 2, none⟩ c) :=
 ((hb.setCell (p := ⟨w.heap.size, 0, none⟩) (Nat.le_refl _) _).setCell (p := ⟨w.heap.size, 1, none⟩) (Nat.le_refl _) _).setCell (p := ⟨w.heap.size, 2, none⟩) (Nat.le_refl _) _
/-- what is ahead of a byte, what is behind it, is it there -/
def cutC (x : UInt8) : List UInt8 → List UInt8 × List UInt8 × Bool
 | [] => ([], [], false)
 | c :: r => if c = x then ([], r, true) else (c :: (cutC x r).1, (cutC x r).2)
theorem cutC_yes (x : UInt8) (B : List UInt8) : ∀ A : List UInt8, x ∉ A → cutC x (A ++ x :: B) = (A, B, true)
 | [], _ => by simp [cutC]
 | c :: A, h => by
  simp only [List.mem_cons, not_or] at h
  have ih := cutC_yes x B A h.2
  simp [cutC, ih, Ne.symm h.1]
theorem cutC_no (x : UInt8) : ∀ l : List UInt8, x ∉ l → cutC x l = (l, [], false)
 | [], _ => rfl
 | c :: l, h => by
  simp only [List.mem_cons, not_or] at h
  have ih := cutC_no x l h.2
  simp [cutC, ih, Ne.symm h.1]
theorem cutC_len (x : UInt8) (l : List UInt8) : (cutC x l).1.length + (cutC x l).2.1.length ≤ l.length := by
 induction l with
 | nil => simp [cutC]
 | cons c r ih => unfold cutC; split <;> simp; omega
theorem lib_cut (x : UInt8) (l : List UInt8) (w : World) (hl : l.length ≤ 100000000) :
  Calls Tryz.prog 133 #[.string (bs l), .string ⟨#[x]⟩] w fun e w' => e = .returned (.tuple #[.string (bs (cutC x l).1), .string (bs (cutC x l).2.1), .bool (cutC x l).2.2]) ∧ Below w.heap.size w w' := by
 by_cases h : x ∈ l
 ·
  obtain ⟨A, B, rfl, hA⟩ := split_at x l h
  rw [cutC_yes x B A hA]; exact cut1_yes A B x w hl hA
 ·
  rw [cutC_no x l h]; exact cut1_no l x w h
/-- a token that is a number: its kind, its number, is it one, the error -/
structure TokR where
 kind : Int
 n : Int
 ok : Bool
 e : Int
def TokR.val (t : TokR) : Value := .tuple #[.agg #[.int .i64 t.kind, .int .i64 t.n, .string ⟨#[]⟩], .bool t.ok, .int .i64 t.e]
def tokNone : TokR := ⟨0, 0, false, 0⟩
def tokGreat : TokR := ⟨0, 0, true, 9⟩
def tokInt (n : Int) : TokR := ⟨1, n, true, 0⟩
def tokReal (n : Int) : TokR := ⟨2, n, true, 0⟩
def radixLoop (base : Nat) : List UInt8 → Nat → Bool → Option (Nat × Bool)
 | [], n, over => some (n, over)
 | c :: r, n, over => if base ≤ hexN c then none else if 4294967296 ≤ n * base + hexN c then radixLoop base r 0 true else radixLoop base r (n * base + hexN c) over
def radixRes : Option (Nat × Bool) → TokR
 | none => tokNone
 | some (n, over) => if over then tokGreat else tokInt (if 2147483648 ≤ n then (n : Int) - 4294967296 else n)
def radixOk (l : List UInt8) : Bool := (cutC 35 l).2.2 && !(cutC 35 l).1.isEmpty && decide ((cutC 35 l).1.length ≤ 2) && (cutC 35 l).1.all isDig && !(cutC 35 l).2.1.isEmpty
set_option maxRecDepth 100000 in
set_option maxHeartbeats 2000000 in
theorem dec_radix_not (l : List UInt8) (w : World) (hl : l.length ≤ 1000) (hno : radixOk l = false) :
    Calls Tryz.prog 121 #[.string (bs l)] w fun e w' => e = .returned tokNone.val ∧ Below w.heap.size w w' := by
  have hC := fun w => lib_cut 35 l w (by omega)
  have hcl := cutC_len 35 l
  unfold radixOk at hno
  generalize cutC 35 l = p at *
  obtain ⟨A, B, f⟩ := p
  simp only at hno hC hcl
  have sA := bs_size A
  cases f with
  | false =>
    clear hno
    go_enter func121, ntmps121
    go_wp2_with (go_at_call 133; go_must (refine (hC _).mono ?_); rintro e w1 ⟨rfl, hb1⟩; obtain ⟨hc1, hf1⟩ := bcell hb1; have hz1 := hb1.size; simp at hz1; replace hz1 := Nat.lt_of_succ_le hz1)
    exact bodyPost_ret (v := tokNone.val) (by simp [results, Tryz.results121, go_sem, hc1, TokR.val, tokNone]) rfl ⟨rfl, bset3 (balloc hb1) _ _ _⟩
  | true =>
    simp only [Bool.true_and] at hno
    have sB := bs_size B
    have hT := bs_toList
    by_cases hA0 : A.isEmpty = true
    · obtain rfl : A = [] := by simpa using hA0
      clear hno hA0
      go_enter func121, ntmps121
      go_wp2_with (go_at_call 133; go_must (refine (hC _).mono ?_); rintro e w1 ⟨rfl, hb1⟩; obtain ⟨hc1, hf1⟩ := bcell hb1; have hz1 := hb1.size; simp at hz1; replace hz1 := Nat.lt_of_succ_le hz1)
      exact bodyPost_ret (v := tokNone.val) (by simp [results, Tryz.results121, go_sem, hc1, TokR.val, tokNone]) rfl ⟨rfl, bset3 (balloc hb1) _ _ _⟩
    · have hA1 : A.isEmpty = false := by simpa using hA0
      have hAe : (bs A).toList.isEmpty = false := by rw [bs_toList]; exact hA1
      rw [hA1] at hno
      by_cases hA2 : 2 < A.length
      · clear hno hA0 hA1 hT
        go_enter func121, ntmps121
        go_wp2_with (go_at_call 133; go_must (refine (hC _).mono ?_); rintro e w1 ⟨rfl, hb1⟩; obtain ⟨hc1, hf1⟩ := bcell hb1; have hz1 := hb1.size; simp at hz1; replace hz1 := Nat.lt_of_succ_le hz1)
        exact bodyPost_ret (v := tokNone.val) (by simp [results, Tryz.results121, go_sem, hc1, TokR.val, tokNone]) rfl ⟨rfl, bset3 (balloc hb1) _ _ _⟩
      · have hPl := fun w => dec_plain A w (by omega)
        cases hall : A.all isDig with
        | false =>
          rw [hall] at hPl
          clear hno hA0 hA1 hall hT
          go_enter func121, ntmps121
          go_wp2_with first | (go_at_call 133; go_must (refine (hC _).mono ?_); rintro e w1 ⟨rfl, hb1⟩; obtain ⟨hc1, hf1⟩ := bcell hb1; have hz1 := hb1.size; simp at hz1; replace hz1 := Nat.lt_of_succ_le hz1) | (go_at_call 134; go_must (refine (hPl _).mono ?_); rintro e w2 ⟨rfl, hb2⟩; obtain ⟨hc2, hf2⟩ := bcell hb2; have hz2 := hb2.size)
          exact bodyPost_ret (v := tokNone.val) (by simp [results, Tryz.results121, go_sem, hc1, hc2, hz1, TokR.val, tokNone]) rfl ⟨rfl, bset3 (btr (balloc hb1) hb2) _ _ _⟩
        | true =>
          rw [hall] at hPl hno
          have hle : decide (A.length ≤ 2) = true := by simp; omega
          rw [hle] at hno
          obtain rfl : B = [] := by simpa using hno
          have hBe : (bs []).toList.isEmpty = true := by rw [bs_toList]; rfl
          clear hno hA0 hA1 hall hle hT
          go_enter func121, ntmps121
          go_wp2_with first | (go_at_call 133; go_must (refine (hC _).mono ?_); rintro e w1 ⟨rfl, hb1⟩; obtain ⟨hc1, hf1⟩ := bcell hb1; have hz1 := hb1.size; simp at hz1; replace hz1 := Nat.lt_of_succ_le hz1) | (go_at_call 134; go_must (refine (hPl _).mono ?_); rintro e w2 ⟨rfl, hb2⟩; obtain ⟨hc2, hf2⟩ := bcell hb2; have hz2 := hb2.size)
          exact bodyPost_ret (v := tokNone.val) (by simp [results, Tryz.results121, go_sem, hc1, hc2, hz1, TokR.val, tokNone]) rfl ⟨rfl, bset3 (btr (balloc hb1) hb2) _ _ _⟩
theorem tokCells {w w' : World} {a b c : Value} {t : TypeId} (hb : Below (w.alloc (.cells #[a, b, c] t)).heap.size (w.alloc (.cells #[a, b, c] t)) w') :
  w'.cell? ⟨w.heap.size, 0, none⟩ = some a ∧ w'.cell? ⟨w.heap.size, 1, none⟩ = some b ∧ w'.cell? ⟨w.heap.size, 2, none⟩ = some c ∧
  w'.frozen? ⟨w.heap.size, 0, none⟩ = false ∧ w'.frozen? ⟨w.heap.size, 1, none⟩ = false ∧ w'.frozen? ⟨w.heap.size, 2, none⟩ = false := by
 have hlt : w.heap.size < (w.alloc (.cells #[a, b, c] t)).heap.size := by simp
 rw [hb.cell (p := ⟨w.heap.size, 0, none⟩) hlt, hb.cell (p := ⟨w.heap.size, 1, none⟩) hlt, hb.cell (p := ⟨w.heap.size, 2, none⟩) hlt, hb.frozen (p := ⟨w.heap.size, 0, none⟩) hlt, hb.frozen (p := ⟨w.heap.size, 1, none⟩) hlt, hb.frozen (p := ⟨w.heap.size, 2, none⟩) hlt]
 refine ⟨?_, ?_, ?_, ?_, ?_, ?_⟩ <;> go_simp
theorem radixLoop_drop (base : Nat) (B : List UInt8) (k n : Nat) (over : Bool) (h : k < B.length) :
  radixLoop base (B.drop k) n over = if base ≤ hexN B[k] then none else if 4294967296 ≤ n * base + hexN B[k] then radixLoop base (B.drop (k + 1)) 0 true else radixLoop base (B.drop (k + 1)) (n * base + hexN B[k]) over := by
 rw [List.drop_eq_getElem_cons h]; rfl
def radixV (A B : List UInt8) : TokR := if natOf A < 2 ∨ 36 < natOf A then tokNone else radixRes (radixLoop (natOf A) B 0 false)
set_option maxRecDepth 100000 in
set_option maxHeartbeats 4000000 in
theorem dec_radix_yes (l A B : List UInt8) (w : World) (hl : l.length ≤ 1000) (hcut : cutC 35 l = (A, B, true)) (hA0 : A ≠ []) (hA2 : A.length ≤ 2) (hall : A.all isDig = true) (hB0 : B ≠ []) :
    Calls Tryz.prog 121 #[.string (bs l)] w fun e w' => e = .returned (radixV A B).val ∧ Below w.heap.size w w' := by
  have hC := fun w => lib_cut 35 l w (by omega)
  have hcl := cutC_len 35 l
  rw [hcut] at hC hcl
  simp only at hC hcl
  clear hcut
  have sA := bs_size A
  have sB := bs_size B
  have hAe : (bs A).toList.isEmpty = false := by rw [bs_toList]; cases A <;> simp at *
  have hBe : (bs B).toList.isEmpty = false := by rw [bs_toList]; cases B <;> simp at *
  have hPl := fun w => dec_plain A w (by omega)
  rw [hall] at hPl
  have hdig : ∀ c ∈ A, isDig c = true := List.all_eq_true.1 hall
  have hnat : ∀ k, natOf (A.take k) < 100 := by
    intro k
    have h1 := natOf_take_le A k
    have h2 := natOf_lt A hdig
    have h4 : 10 ^ A.length ≤ 10 ^ 2 := Nat.pow_le_pow_right (by decide) hA2
    omega
  have Hdig := hid hdig; have Hnat := hid hnat
  clear hA0 hB0 hall hdig hnat
  go_enter func121, ntmps121
  go_wp2_with first | (go_at_call 133; go_must (refine (hC _).mono ?_); rintro e w1 ⟨rfl, hb1⟩; obtain ⟨hc1, hf1⟩ := bcell hb1; have hz1 := hb1.size; simp at hz1; replace hz1 := Nat.lt_of_succ_le hz1) | (go_at_call 134; go_must (refine (hPl _).mono ?_); rintro e w2 ⟨rfl, hb2⟩; obtain ⟨hc2, hf2⟩ := bcell hb2; have hz2 := hb2.size) | (refine wpList_conv_bytes rfl _ _ _ _ rfl underlying9 underlying26 underlying5 _ rfl ?_; intro cap w3 hcap hrow hg hsz)
  have hbw : Below (w.alloc (Obj.cells #[Value.int .i64 0, Value.int .i64 0, Value.string ⟨#[]⟩] 120)).heap.size (w.alloc (Obj.cells #[Value.int .i64 0, Value.int .i64 0, Value.string ⟨#[]⟩] 120)) w3 := btr (btr hb1 hb2) (below_of_grown hg)
  have Hrow := hid hrow
  clear hc1 hf1 hc2 hf2 hb1 hb2 hz2 hrow hg hC hPl hAe hBe hcap hsz hz1
  go_loop [8, 46] (fun n i => ∃ k : Nat, k ≤ A.length ∧ i = .int .i64 k ∧ n = .int .i64 (natOf (A.take k) : Int)) (fun _ i => A.length - (intOf i).toNat)
  case atStart => exact ⟨0, Nat.zero_le _, rfl, rfl⟩
  case round =>
    obtain ⟨k, hk, rfl, rfl⟩ := hrel
    have hle := Hnat.out k
    by_cases hkl : k < A.length
    · have hstep := natOf_take A k hkl
      have hd := isDig_bounds (Hdig.out A[k] (by simp))
      have hc := (Hrow.out k _ (byteVals_at A k hkl)).1
      have Hstep := hid hstep; clear hstep
      generalize natOf (A.take k) = N at *
      generalize A[k].toNat = c at *
      go_wp2
      go_round
      case rel => exact ⟨k + 1, by omega, by go_num, by rw [Hstep.out]; go_num⟩
      case measure => simp [intOf]; omega
    · obtain rfl : k = A.length := by omega
      rw [List.take_length] at hle ⊢
      clear Hrow Hnat hkl
      generalize hgN : natOf A = N at *
      have HgN := hid hgN; clear hgN
      by_cases hbad : N < 2 ∨ 36 < N
      · have Hbad := hid hbad
        obtain ⟨c0, c1, c2, f0, f1, f2⟩ := tokCells hbw
        go_wp2
        all_goals exact bodyPost_ret (v := tokNone.val) (by simp [results, Tryz.results121, go_sem, c0, c1, c2, TokR.val, tokNone]) rfl ⟨by rw [radixV, HgN.out, if_pos Hbad.out], bset3 (balloc hbw) _ _ _⟩
      · have hb2 : 2 ≤ N := by omega
        have hb36 : N ≤ 36 := by omega
        have Hbad := hid hbad; clear hbad
        go_wp2_with (refine wpList_conv_bytes rfl _ _ _ _ rfl underlying9 underlying26 underlying5 _ rfl ?_; intro cap2 w4 hcap2 hrow hg hsz2)
        have hbw4 := hbw.trans ((below_of_grown hg).mono hbw.size)
        obtain ⟨c0, c1, c2, f0, f1, f2⟩ := tokCells hbw4
        have Hrow := hid hrow
        clear hrow hg hcap2 hsz2 hbw
        have hfin : (if N < 2 ∨ 36 < N then tokNone else radixRes (radixLoop N B 0 false)) = radixRes (radixLoop N B 0 false) := if_neg Hbad.out
        have Hfin := hid hfin; clear hfin
        go_loop [11, 12, 67] (fun n o i => ∃ (k : Nat) (n0 : Nat) (ov : Bool), k ≤ B.length ∧ i = .int .i64 k ∧ n = .int .i64 n0 ∧ o = .bool ov ∧ n0 < 4294967296 ∧ radixLoop N (B.drop k) n0 ov = radixLoop N B 0 false) (fun _ _ i => B.length - (intOf i).toNat)
        case atStart => exact ⟨0, 0, false, Nat.zero_le _, rfl, rfl, rfl, by omega, rfl⟩
        case round =>
          obtain ⟨k, n0, ov, hk, rfl, rfl, rfl, hn0, hrr⟩ := hrel
          have Hrr := hid hrr; clear hrr
          by_cases hkl : k < B.length
          · have hstep := radixLoop_drop N B k n0 ov hkl
            have hc := (Hrow.out k _ (byteVals_at B k hkl)).1
            have hx := hexN_le B[k]
            have hD := fun w => dec_digit B[k] w
            generalize hexN B[k] = d at *
            generalize B[k] = c at *
            obtain ⟨P, hP⟩ : ∃ P : Nat, P = n0 * N := ⟨_, rfl⟩
            have hPi : (n0 : Int) * (N : Int) = (P : Int) := by rw [hP, Int.natCast_mul]
            have hP2 : P ≤ 154618822656 := by
              have h := Nat.mul_le_mul (show n0 ≤ 4294967296 by omega) hb36
              rw [← hP] at h; omega
            rw [← hP] at hstep
            have Hstep := hid hstep; clear hstep hP
            by_cases hdN : N ≤ d
            · go_wp2_with (go_at_call 138; go_must (refine (hD _).mono ?_); rintro e w5 ⟨rfl, rfl⟩)
              refine bodyPost_ret (v := tokNone.val) (by simp [results, Tryz.results121, go_sem, c0, c1, c2, TokR.val, tokNone]) rfl ⟨?_, bset3 (balloc hbw4) _ _ _⟩
              rw [radixV, HgN.out, Hfin.out, ← Hrr.out, Hstep.out, if_pos hdN]; rfl
            · by_cases hov : 4294967296 ≤ P + d
              · have hov2 : (4294967296 : Int) ≤ (P : Int) + (d : Int) := by omega
                have Hov := hid hov; clear hov
                go_wp2_with (go_at_call 138; go_must (refine (hD _).mono ?_); rintro e w5 ⟨rfl, rfl⟩)
                go_round
                case rel => exact ⟨k + 1, 0, true, by omega, by go_num, rfl, rfl, by omega, by rw [← Hrr.out, Hstep.out, if_neg hdN, if_pos Hov.out]⟩
                case measure => simp [intOf]; omega
              · have hov2 : decide ((4294967296 : Int) ≤ (P : Int) + (d : Int)) = false := decide_eq_false (by omega)
                have hPd : P + d < 4294967296 := by omega
                have Hov := hid hov; have HPd := hid hPd; clear hov hPd
                go_wp2_with (go_at_call 138; go_must (refine (hD _).mono ?_); rintro e w5 ⟨rfl, rfl⟩)
                go_round
                case rel => exact ⟨k + 1, P + d, ov, by omega, by go_num, by go_num, rfl, HPd.out, by rw [← Hrr.out, Hstep.out, if_neg hdN, if_neg Hov.out]⟩
                case measure => simp [intOf]; omega
          · obtain rfl : k = B.length := by omega
            have hend : radixLoop N B 0 false = some (n0, ov) := by
              rw [← Hrr.out, List.drop_length]; rfl
            have Hend := hid hend; clear hend Hrow hkl
            cases ov with
            | true =>
              go_wp2
              refine bodyPost_ret (v := tokGreat.val) (by simp [results, Tryz.results121, go_sem, c0, c1, c2, TokR.val, tokGreat]) rfl ⟨?_, bset3 (balloc hbw4) _ _ _⟩
              rw [radixV, HgN.out, Hfin.out, Hend.out]; rfl
            | false =>
              by_cases hbig : 2147483648 ≤ n0
              · have hbd : decide ((2147483648 : Int) ≤ (n0 : Int)) = true := decide_eq_true (by omega)
                have Hbig := hid hbig; clear hbig
                go_wp2
                have hbig := Hbig.out
                refine bodyPost_ret (v := (tokInt ((n0 : Int) - 4294967296)).val) (by simp [results, Tryz.results121, go_sem, c0, c1, c2, TokR.val, tokInt]) rfl ⟨?_, bset3 (balloc hbw4) _ _ _⟩
                rw [radixV, HgN.out, Hfin.out, Hend.out]
                rw [radixRes]; simp only [Bool.false_eq_true, if_false, hbig]; rfl
              · have hbd : decide ((2147483648 : Int) ≤ (n0 : Int)) = false := decide_eq_false (by omega)
                have Hbig := hid hbig; clear hbig
                go_wp2
                have hbig := Hbig.out
                refine bodyPost_ret (v := (tokInt (n0 : Int)).val) (by simp [results, Tryz.results121, go_sem, c0, c1, c2, TokR.val, tokInt]) rfl ⟨?_, bset3 (balloc hbw4) _ _ _⟩
                rw [radixV, HgN.out, Hfin.out, Hend.out]
                rw [radixRes]; simp only [Bool.false_eq_true, if_false, hbig]
def radixL (l : List UInt8) : TokR := if radixOk l then radixV (cutC 35 l).1 (cutC 35 l).2.1 else tokNone
theorem dec_radix (l : List UInt8) (w : World) (hl : l.length ≤ 1000) :
  Calls Tryz.prog 121 #[.string (bs l)] w fun e w' => e = .returned (radixL l).val ∧ Below w.heap.size w w' := by
 unfold radixL
 cases hok : radixOk l with
 | false => exact dec_radix_not l w hl hok
 | true =>
  unfold radixOk at hok
  simp only [Bool.and_eq_true, decide_eq_true_eq, Bool.not_eq_true', List.isEmpty_eq_false_iff] at hok
  obtain ⟨⟨⟨⟨h1, h2⟩, h3⟩, h4⟩, h5⟩ := hok
  have hc : cutC 35 l = ((cutC 35 l).1, (cutC 35 l).2.1, true) := by rw [← h1]
  exact dec_radix_yes l _ _ w hl hc h2 h3 h4 h5
end
section
def eE : ByteArray := ⟨#[101, 69]⟩
theorem eE_size : eE.size = 2 := rfl
theorem eE_1 (h : 1 < eE.size) : eE[1]'h = 69 := rfl
theorem eE_tail : eE.extract 2 2 = bs [] := rfl
theorem eE_asc : ∀ i (h : i < eE.size), (eE[i]'h).toNat < 128 := by
 intro i h
 have h2 : i < 2 := h
 obtain rfl | rfl : i = 0 ∨ i = 1 := by omega
 ·
  show (101 : UInt8).toNat < 128; decide
 ·
  show (69 : UInt8).toNat < 128; decide
def isE (c : UInt8) : Bool := c == 101 || c == 69
theorem encode_two (r : Nat) (h : 128 ≤ r) (h2 : r < 2048) : Utf8.encode (r : Int) = ⟨#[UInt8.ofNat (192 + r / 64), UInt8.ofNat (128 + r % 64)]⟩ := by
 have hv : Utf8.valid (r : Int) = true := by simp [Utf8.valid]; omega
 unfold Utf8.encode
 simp only [hv, if_true, Int.toNat_natCast]
 rw [if_neg (by omega), if_pos (by omega)]
theorem encode_more (r : Nat) (h2 : 2048 ≤ r) (h3 : Utf8.valid (r : Int) = true) : 3 ≤ (Utf8.encode (r : Int)).size ∧ (Utf8.encode (r : Int)).size ≤ 4 := by
 unfold Utf8.encode
 simp only [h3, if_true, Int.toNat_natCast]
 rw [if_neg (by omega), if_neg (by omega)]
 split <;> simp [ByteArray.size]
/-- a quiet callee behind a quiet region -/
theorem quiet_add_same {P : Program} {f : FuncId} {args : Array Value} {w : World} {a n : Nat} {v : Value}
  (h : Calls P f args (w.drewN (a + n)) fun e w' => e = .returned v ∧ w' = w.drewN (a + n)) :
  Calls P f args (w.drewN (a + n)) fun e w'' => e = .returned v ∧ ∃ m, w'' = w.drewN (a + m) :=
 h.mono fun _ _ ⟨he, hm⟩ => ⟨he, n, hm⟩
theorem indexByte_nil (c : Int) (w : World) :
  Calls Tryz.prog 48 #[.string ByteArray.empty, .int .u8 c] w fun e w' => e = .returned (.int .i64 (-1)) ∧ w' = w :=
 Tryz.strings_IndexByte ByteArray.empty c w
set_option maxRecDepth 100000 in
set_option maxHeartbeats 4000000 in
theorem indexRune_two (r : Nat) (w : World) (h : 128 ≤ r) (h2 : r < 2048) :
  Calls Tryz.prog 100 #[.string eE, .int .i32 (r : Int)] w fun e w' => e = .returned (.int .i64 (-1)) ∧ Below w.heap.size w w' := by
 have hV := fun w => (Tryz.utf8_ValidRune (r : Int) w)
 have hvr : Lib.validRune (r : Int) = true := by simp [Lib.validRune]; omega
 rw [hvr] at hV
 have henc := encode_two r h h2
 have hs : (Utf8.encode (r : Int)).size = 2 := by rw [henc]; rfl
 obtain ⟨c, hc⟩ : ∃ c : UInt8, c = UInt8.ofNat (128 + r % 64) := ⟨_, rfl⟩
 have hc1 : c.toNat = 128 + r % 64 := by rw [hc, UInt8.toNat_ofNat']; omega
 have hget : ∀ h, (Utf8.encode (r : Int))[1]'h = c := by rw [henc, hc]; intro _; rfl
 have hne : ((69 : Int) != (c.toNat : Int)) = true := by rw [bne_iff_ne]; omega
 have e1 := eE_size
 have e2 := eE_1
 have e3 := eE_tail
 have hne3 : ((r : Int) == 65533) = false := by rw [beq_eq_false_iff_ne]; omega
 have hlt : decide ((r : Int) < 128) = false := decide_eq_false (by omega)
 have hlt2 : ¬ ((r : Int) < 128) := by omega
 have hget1 : (Utf8.encode (r : Int))[1]'(by rw [hs]; omega) = c := hget _
 have Hget := hid hget1
 clear hc hc1 henc hvr hget hget1
 generalize eE = s at *
 go_enter func100, ntmps100
 go_wp2_with (go_at_call 108; go_must (refine (hV _).mono ?_); rintro e w1 ⟨rfl, rfl⟩)
 go_step3
 go_wp2_with fail
 go_loopw [9] (fun v wr => v = .int .i64 1 ∧ wr = w1) (fun _ _ => 0)
 case atStart => exact ⟨rfl, rfl⟩
 case round =>
  obtain ⟨rfl, rfl⟩ := hrel
  go_wp2
  go_step3
  go_wp2_with fail
  have hget := Hget.out
  go_quiet (fail)
  go_wp2_with fail
  have hwr : IntKind.i64.wrap 2 = 2 := rfl
  go_quiet ((go_at_call 48; exact quiet_add_same (indexByte_nil _ _)))
  go_wp2_with fail
  rw [Exit.noGoto_ret]
  simp (config := {zetaDelta := true}) only [Exit.inBlock, Exit.then, Exit.noGoto]
  go_ret
  exact ⟨rfl, by simpa using bdrewN _ _⟩
set_option maxRecDepth 100000 in
set_option maxHeartbeats 4000000 in
theorem indexRune_more (r : Nat) (w : World) (h2 : 2048 ≤ r) (hv : Utf8.valid (r : Int) = true) (h3 : r ≠ 65533) :
  Calls Tryz.prog 100 #[.string eE, .int .i32 (r : Int)] w fun e w' => e = .returned (.int .i64 (-1)) ∧ Below w.heap.size w w' := by
 have hV := fun w => (Tryz.utf8_ValidRune (r : Int) w)
 have hvr : Lib.validRune (r : Int) = true := by rw [← hv, Bool.eq_iff_iff]; simp [Lib.validRune, Utf8.valid]; omega
 rw [hvr] at hV
 have hrl : r < 1114112 := by simp [Utf8.valid] at hv; omega
 obtain ⟨hm1, hm2⟩ := encode_more r h2 hv
 obtain ⟨z, hz⟩ : ∃ z : Nat, (Utf8.encode (r : Int)).size = z := ⟨_, rfl⟩
 have e1 := eE_size
 have hne3 : ((r : Int) == 65533) = false := by rw [beq_eq_false_iff_ne]; omega
 have hlt : decide ((r : Int) < 128) = false := decide_eq_false (by omega)
 have hlt2 : ¬ ((r : Int) < 128) := by omega
 rw [hz] at hm1 hm2
 clear hvr hv
 generalize eE = s at *
 go_enter func100, ntmps100
 go_wp2_with (go_at_call 108; go_must (refine (hV _).mono ?_); rintro e w1 ⟨rfl, rfl⟩)
 go_step3
 go_wp2_with fail
 go_loopw [9] (fun v wr => v = .int .i64 ((z : Int) - 1) ∧ wr = w1) (fun _ _ => 0)
 case atStart => exact ⟨rfl, rfl⟩
 case round =>
  obtain ⟨rfl, rfl⟩ := hrel
  have hz2 : decide ((z : Int) - 1 < 2) = false := decide_eq_false (by omega)
  have hz3 : ¬ ((z : Int) - 1 < 2) := by omega
  go_wp2
  go_ret
  exact ⟨rfl, Below.refl _ _⟩
set_option maxRecDepth 100000 in
set_option maxHeartbeats 4000000 in
theorem indexRune_err (w : World) :
  Calls Tryz.prog 100 #[.string eE, .int .i32 65533] w fun e w' => e = .returned (.int .i64 (-1)) ∧ Below w.heap.size w w' := by
 have e1 := eE_size
 have hasc := eE_asc
 have Hasc := hid hasc; clear hasc
 generalize eE = s at *
 go_enter func100, ntmps100
 go_wp2
 go_loopg [5, 6] 2 (fun g _ _ wx => ∃ i : Nat, i + g = 2 ∧ wx = w.iter s i)
 case atStart => exact ⟨0, by omega, rfl⟩
 case round =>
  obtain ⟨i, hig, rfl⟩ := hrel
  cases gk with
  | zero =>
   obtain rfl : i = 2 := by omega
   have hnx := run_next_end (P := Tryz.prog) w s 2
   go_wp2
   go_ret
   exact ⟨rfl, by simpa [World.iter] using (Below.refl w.heap.size w).alloc (Nat.le_refl _) _⟩
  | succ g =>
   have hi : i < s.size := by omega
   have hx128 := Hasc.out i hi
   have hnx := fun ty => run_next_ascii (P := Tryz.prog) w s i ty hi hx128
   generalize s[i].toNat = c at *
   have hne : ((c : Int) == 65533) = false := by rw [beq_eq_false_iff_ne]; omega
   go_wp2
   go_roundg g
   case measure => omega
   case rel => exact ⟨i + 1, by omega, rfl⟩
theorem decode_skip (s : ByteArray) (pos : Nat) (h : pos < s.size) (ha : 128 ≤ (s[pos]'h).toNat) :
  128 ≤ (Utf8.decode s pos).1 ∧ Utf8.valid ((Utf8.decode s pos).1 : Int) = true ∧ 1 ≤ (Utf8.decode s pos).2 ∧ pos + (Utf8.decode s pos).2 ≤ s.size ∧ ∀ j, pos < j → j < pos + (Utf8.decode s pos).2 → ∀ hj : j < s.size, 128 ≤ (s[j]'hj).toNat := by
 have hn : ¬ (s[pos]'h).toNat < 128 := by omega
 have hb := (s[pos]'h).toNat_lt
 have hg : ∀ k (hk : pos + k < s.size), s.get! (pos + k) = s[pos + k]'hk := fun k hk => get_at s (pos + k) hk
 have one : ∀ j, pos < j → j < pos + 1 → ∀ hj : j < s.size, 128 ≤ (s[j]'hj).toNat := fun j _ _ _ => by omega
 have herr : Utf8.valid ((Utf8.runeError : Nat) : Int) = true := by decide
 have herr2 : 128 ≤ Utf8.runeError := by decide
 simp only [Utf8.decode, get_at s pos h, hn, if_false]
 split
 ·
  rename_i h2
  simp only [Bool.and_eq_true, decide_eq_true_eq, beq_iff_eq] at h2
  obtain ⟨h2a, h2b, h2c⟩ := h2
  split
  ·
   rename_i h3
   refine ⟨h3, ?_, by omega, by omega, ?_⟩
   ·
    simp [Utf8.valid]; omega
   ·
    intro j hj1 hj2 hj
    obtain rfl : j = pos + 1 := by omega
    rw [hg 1 hj] at h2c; omega
  ·
   exact ⟨herr2, herr, by omega, by omega, one⟩
 ·
  split
  ·
   rename_i h2
   simp only [Bool.and_eq_true, decide_eq_true_eq, beq_iff_eq] at h2
   obtain ⟨⟨h2a, h2b, h2c⟩, h2d, h2e⟩ := h2
   split
   ·
    rename_i h3
    simp only [ge_iff_le, Bool.and_eq_true, decide_eq_true_eq] at h3
    refine ⟨by omega, h3.2, by omega, by omega, ?_⟩
    intro j hj1 hj2 hj
    obtain rfl | rfl : j = pos + 1 ∨ j = pos + 2 := by omega
    ·
     rw [hg 1 hj] at h2c; omega
    ·
     rw [hg 2 hj] at h2e; omega
   ·
    exact ⟨herr2, herr, by omega, by omega, one⟩
  ·
   split
   ·
    rename_i h2
    simp only [Bool.and_eq_true, decide_eq_true_eq, beq_iff_eq] at h2
    obtain ⟨⟨⟨h2a, h2b, h2c⟩, h2d, h2e⟩, h2f, h2g⟩ := h2
    split
    ·
     rename_i h3
     simp only [ge_iff_le, Bool.and_eq_true, decide_eq_true_eq] at h3
     refine ⟨by omega, h3.2, by omega, by omega, ?_⟩
     intro j hj1 hj2 hj
     obtain rfl | rfl | rfl : j = pos + 1 ∨ j = pos + 2 ∨ j = pos + 3 := by omega
     ·
      rw [hg 1 hj] at h2c; omega
     ·
      rw [hg 2 hj] at h2e; omega
     ·
      rw [hg 3 hj] at h2g; omega
    ·
     exact ⟨herr2, herr, by omega, by omega, one⟩
   ·
    exact ⟨herr2, herr, by omega, by omega, one⟩
theorem indexRune_high (r : Nat) (w : World) (h : 128 ≤ r) (hv : Utf8.valid (r : Int) = true) :
  Calls Tryz.prog 100 #[.string eE, .int .i32 (r : Int)] w fun e w' => e = .returned (.int .i64 (-1)) ∧ Below w.heap.size w w' := by
 by_cases h2 : r < 2048
 ·
  exact indexRune_two r w h h2
 ·
  by_cases h3 : r = 65533
  ·
   subst h3; exact indexRune_err w
  ·
   exact indexRune_more r w (by omega) hv h3
/-- what is ahead of the first e, what is behind it, is there one -/
def cutE : List UInt8 → List UInt8 × List UInt8 × Bool
 | [] => ([], [], false)
 | c :: r => if isE c then ([], r, true) else (c :: (cutE r).1, (cutE r).2)
theorem cutE_len (l : List UInt8) : (cutE l).1.length + (cutE l).2.1.length ≤ l.length := by
 induction l with
 | nil => simp [cutE]
 | cons c r ih => unfold cutE; split <;> simp; omega
theorem cutE_yes_join (l : List UInt8) (h : (cutE l).2.2 = true) : ∃ c, isE c = true ∧ l = (cutE l).1 ++ c :: (cutE l).2.1 := by
 induction l with
 | nil => simp [cutE] at h
 | cons c r ih =>
  unfold cutE at h ⊢
  by_cases hc : isE c = true
  ·
   simp only [hc, if_true]; exact ⟨c, hc, rfl⟩
  ·
   simp only [hc] at h ⊢
   obtain ⟨d, hd, e⟩ := ih h
   refine ⟨d, hd, ?_⟩
   show c :: r = c :: ((cutE r).1 ++ d :: (cutE r).2.1)
   rw [← e]
theorem cutE_no_join (l : List UInt8) (h : (cutE l).2.2 = false) : (cutE l).1 = l ∧ (cutE l).2.1 = [] := by
 induction l with
 | nil => simp [cutE]
 | cons c r ih =>
  unfold cutE at h ⊢
  by_cases hc : isE c = true
  ·
   simp [hc] at h
  ·
   simp only [hc] at h ⊢
   obtain ⟨h1, h2⟩ := ih h
   exact ⟨by show c :: (cutE r).1 = c :: r; rw [h1], h2⟩
def idxE (l : List UInt8) : Int := if (cutE l).2.2 then ((cutE l).1.length : Int) else -1
theorem idxE_any (l : List UInt8) : Lib.indexAny l eE.data.toList = idxE l := by
 induction l with
 | nil => rfl
 | cons c r ih =>
  have hin : eE.data.toList.contains c = isE c := by
   show List.contains [101, 69] c = (c == 101 || c == 69)
   by_cases h1 : c = 101
   ·
    subst h1; rfl
   ·
    by_cases h2 : c = 69
    ·
     subst h2; rfl
    ·
     rw [beq_false_of_ne h1, beq_false_of_ne h2, List.contains, List.elem, beq_false_of_ne h1]
     show List.elem c [69] = _
     rw [List.elem, beq_false_of_ne h2]; rfl
  rw [Lib.indexAny, hin, ih]
  unfold idxE
  rw [cutE]
  by_cases hc : isE c = true
  ·
   simp [hc]
  ·
   simp only [hc]
   by_cases h2 : (cutE r).2.2 = true
   ·
    simp [h2]
    try omega
   ·
    simp [h2]
theorem eE_contains : ∀ x : UInt8, 128 ≤ x.toNat → eE.data.toList.contains x = false := by
 intro x hx
 show List.contains [101, 69] x = false
 have h1 : x ≠ 101 := by rintro rfl; exact absurd hx (by decide)
 have h2 : x ≠ 69 := by rintro rfl; exact absurd hx (by decide)
 rw [List.contains, List.elem, beq_false_of_ne h1]
 show List.elem x [69] = _
 rw [List.elem, beq_false_of_ne h2]; rfl
set_option maxRecDepth 100000 in
set_option maxHeartbeats 4000000 in
theorem lib_IndexAny_short (s : ByteArray) (w : World) (h8 : s.size ≤ 8) :
    Calls Tryz.prog 123 #[.string s, .string eE] w fun e w' => e = .returned (.int .i64 (Lib.indexAny s.data.toList eE.data.toList)) ∧ Below w.heap.size w w' := by
  have hemp : eE.toList.isEmpty = false := by rw [show eE = bs [101, 69] from rfl, bs_toList]; rfl
  have e1 := eE_size
  have h8z : decide ((8 : Int) < (s.size : Int)) = false := decide_eq_false (by omega)
  have hU := fun n w => Tryz.strings_shouldUseASCIISet n w
  have hR := fun c (hc : c < 128) w => Tryz.strings_IndexRune_ascii eE (c : Nat) w (by omega) (by omega)
  have hH := fun r w h hv => indexRune_high r w h hv
  have hci := fun x => Lib.contains_iff_indexByte eE.data.toList x
  have HC := hid eE_contains
  generalize eE = ch at *
  go_enter func123, ntmps123
  go_wp2_with (go_at_call 139; go_must (refine (hU _ _).mono ?_); rintro e w1 ⟨rfl, rfl⟩; rw [h8z])
  obtain ⟨B, hB⟩ : ∃ B, w1.heap.size = B := ⟨_, rfl⟩
  have hit : (w1.iter s 0).heap[B]? = some (.stringIter s 0) := by rw [← hB]; exact World.iter_heap _ _ _
  have hbi : Below B w1 (w1.iter s 0) := by rw [← hB]; exact (Below.refl w1.heap.size w1).alloc (Nat.le_refl _) _
  generalize w1.iter s 0 = wi at *
  rw [hB]
  have HB := hid (show w1.heap.size ≤ B by omega)
  clear hB
  go_loopg [9, 10] s.size (fun g _ _ wx => ∃ i : Nat, i + g = s.size ∧ wx.heap[B]? = some (.stringIter s i) ∧ Below B w1 wx ∧ Lib.NoAny s.data.toList ch.data.toList i)
  case atStart => exact ⟨0, by omega, hit, hbi, Lib.NoAny.zero _ _⟩
  case round =>
    obtain ⟨i, hig, hit, hbx, hno⟩ := hrel
    have HN := hid hno
    clear hno
    cases gk with
    | zero =>
      obtain rfl : i = s.size := by omega
      have hnx := fun ty => Lib.run_next_end_at (P := Tryz.prog) wr B s s.size ty hit (by omega)
      go_wp2
      go_ret
      exact ⟨by rw [Lib.indexAny_none (by rw [← Lib.size_eq]; exact HN.out)]; rfl, hbx.mono HB.out⟩
    | succ g =>
      have hi : i < s.size := by omega
      obtain ⟨x, hx⟩ : ∃ x : UInt8, s[i]'hi = x := ⟨_, rfl⟩
      have hxl : s.data.toList[i]? = some x := by rw [← hx]; exact Lib.data_getElem? s i hi
      by_cases hx128 : x.toNat < 128
      · have hnx := fun ty => Lib.run_next_ascii_at (P := Tryz.prog) wr B s i ty hit hi (by rw [hx]; exact hx128)
        rw [hx] at hnx
        have Hx := hid hxl
        have Hit := hid (Lib.iterAt_heap wr B s i (i + 1) hit)
        have Hb2 := hid (Lib.below_iterAt hbx (Nat.le_refl B) s (i + 1))
        clear hxl hx hit
        have hcon := hci x
        have hback : ((x.toNat : Int)).toNat.toUInt8 = x := by simp
        have hR1 := fun w => hR x.toNat hx128 w
        rw [hback] at hR1
        clear hback hR hH hci hU
        cases hin : ch.data.toList.contains x
        · rw [hin] at hcon
          have hlt : ¬ ((0 : Int) ≤ Lib.indexByte ch.data.toList x) := of_decide_eq_false hcon.symm
          clear hcon
          go_wp2_with (go_at_call 100; go_must (refine (hR1 _).mono ?_); rintro e w2 ⟨rfl, rfl⟩)
          go_roundg g
          case measure => omega
          case rel => exact ⟨i + 1, by omega, Hit.out, Hb2.out, HN.out.succ Hx.out hin⟩
        · rw [hin] at hcon
          have hge : (0 : Int) ≤ Lib.indexByte ch.data.toList x := of_decide_eq_true hcon.symm
          clear hcon
          go_wp2_with (go_at_call 100; go_must (refine (hR1 _).mono ?_); rintro e w2 ⟨rfl, rfl⟩)
          go_ret
          exact ⟨by rw [Lib.indexAny_hit HN.out Hx.out hin]; rfl, Hb2.out.mono HB.out⟩
      · obtain ⟨hd1, hd2, hd3, hd4, hd5⟩ := decode_skip s i hi (by rw [hx]; omega)
        have hnx := fun ty => Lib.run_next_any_at (P := Tryz.prog) wr B s i ty hit hi
        have hno2 : Lib.NoAny s.data.toList ch.data.toList (i + (Utf8.decode s i).2) := by
          intro j b hj hb
          by_cases hji : j < i
          · exact HN.out j b hji hb
          · have hjs : j < s.size := by omega
            rw [Lib.data_getElem? s j hjs] at hb
            have hb2 : s[j] = b := Option.some.inj hb
            have h128 : 128 ≤ b.toNat := by
              by_cases hje : j = i
              · subst hje; rw [← hb2, hx]; omega
              · rw [← hb2]; exact hd5 j (by omega) hj hjs
            exact HC.out b h128
        have Hno2 := hid hno2
        clear hno2 hd5 hxl hx hR hci hU
        have hR1 := fun w => hH _ w hd1 hd2
        generalize (Utf8.decode s i).1 = r at *
        generalize (Utf8.decode s i).2 = n at *
        have Hit := hid (Lib.iterAt_heap wr B s i (i + n) hit)
        have Hb2 := hid (Lib.below_iterAt hbx (Nat.le_refl B) s (i + n))
        clear hit hH hd2
        go_wp2_with (go_at_call 100; go_must (refine (hR1 _).mono ?_); rintro e w2 ⟨rfl, hb3⟩)
        go_roundg (s.size - (i + n))
        case measure => omega
        case rel => exact ⟨i + n, by omega, (hb3.block B (Array.getElem?_eq_some_iff.1 Hit.out).1).trans Hit.out, Hb2.out.trans (hb3.mono (Nat.le_of_lt (Array.getElem?_eq_some_iff.1 Hit.out).1)), Hno2.out⟩
theorem lib_IndexAny (l : List UInt8) (w : World) (hl : l.length ≤ 1000) :
    Calls Tryz.prog 123 #[.string (bs l), .string eE] w fun e w' => e = .returned (.int .i64 (idxE l)) ∧ Below w.heap.size w w' := by
  have hd : (bs l).data.toList = l := by rw [← Lib.toList_data, bs_toList]
  rw [← idxE_any]
  by_cases h8 : l.length ≤ 8
  · have h := lib_IndexAny_short (bs l) w (by rw [bs_size]; exact h8)
    rw [hd] at h; exact h
  · have hz := zero_of_info (P := Tryz.prog) (t := 104) (v := .agg (Array.replicate 256 (.bool false))) (n := 256) (by kernel_rfl)
    have h := Tryz.strings_IndexAny_long hz.1 (bs l) eE w (by rw [eE_size]; omega) (by rw [bs_size]; omega) (by rw [bs_size]; omega) (by rw [eE_size]; omega) (by
      intro j b hj
      have h0 : eE.data.toList = [101, 69] := rfl
      rw [h0] at hj
      have hm := List.mem_of_getElem? hj
      simp only [List.mem_cons, List.not_mem_nil, or_false] at hm
      rcases hm with rfl | rfl <;> decide)
    rw [hd] at h
    refine h.mono fun e w' ⟨h1, h2⟩ => ⟨h1, ?_⟩
    rw [h2]
    exact ((Below.refl w.heap.size w).alloc (Nat.le_refl _) _).alloc (by simp) _
end
section
/-- a real number's token: sign, mantissa, power -/
def finL (m : Bool) (p : List UInt8) (k : Int) : TokR :=
 if mantOk p then
  (if (valueL m (wholeD ((cutDot p).1 ++ (cutDot p).2.1) ((cutDot p).1.length + k)) (restD ((cutDot p).1 ++ (cutDot p).2.1) ((cutDot p).1.length + k))).2 then
   tokReal (valueL m (wholeD ((cutDot p).1 ++ (cutDot p).2.1) ((cutDot p).1.length + k)) (restD ((cutDot p).1 ++ (cutDot p).2.1) ((cutDot p).1.length + k))).1
  else tokGreat)
 else tokNone
def realL2 (l : List UInt8) : TokR :=
 if (cutE (signedL l).2).2.2 then
  (if (powerL (cutE (signedL l).2).2.1).2 then finL (signedL l).1 (cutE (signedL l).2).1 (powerL (cutE (signedL l).2).2.1).1 else tokNone)
 else finL (signedL l).1 (signedL l).2 0
/-- the token that a text is -/
def tokenL (l : List UInt8) : TokR :=
 if 64 < l.length then tokNone
 else if (radixL l).ok then radixL l
 else if (wholeT l).2 then tokInt (wholeT l).1
 else realL2 l
theorem blay {w0 w1 w2 : World} (hb1 : Below w0.heap.size w0 w1) {o : Obj}
  (hb2 : Below (w1.alloc o).heap.size (w1.alloc o) w2) : Below w0.heap.size w0 w2 := by
 have h : Below w0.heap.size w0 (w1.alloc o) := hb1.alloc hb1.size o
 exact h.trans (hb2.mono h.size)
theorem dec_Token_long (l : List UInt8) (w : World) (hl : 64 < l.length) :
  Calls Tryz.prog 107 #[.string (bs l)] w fun e w' => e = .returned tokNone.val ∧ Below w.heap.size w w' := by
 have hs := bs_size l
 go_enter func107, ntmps107
 go_wp2_with fail
 exact bodyPost_ret (v := tokNone.val) (by simp [results, Tryz.results107, go_sem, TokR.val, tokNone]) rfl ⟨rfl, balloc (Below.refl _ _)⟩
set_option maxRecDepth 100000 in
set_option maxHeartbeats 4000000 in
theorem dec_Token_radix (l : List UInt8) (w : World) (hl : l.length ≤ 64) (h : (radixL l).ok = true) :
  Calls Tryz.prog 107 #[.string (bs l)] w fun e w' => e = .returned (radixL l).val ∧ Below w.heap.size w w' := by
 have hs := bs_size l
 have hR := fun w => dec_radix l w (by omega)
 generalize radixL l = R at *
 obtain ⟨k, n, ok, er⟩ := R
 simp only at h
 subst h
 simp only [TokR.val] at hR ⊢
 go_enter func107, ntmps107
 go_wp2_with (go_at_call 121; go_must (refine (hR _).mono ?_); rintro e w1 ⟨rfl, hb1⟩; obtain ⟨c0, c1, c2, f0, f1, f2⟩ := tokCells hb1; have hz1 := hb1.size; simp at hz1; replace hz1 := Nat.lt_of_succ_le hz1)
 refine bodyPost_ret (v := .tuple #[.agg #[.int .i64 k, .int .i64 n, .string ⟨#[]⟩], .bool true, .int .i64 er]) (by simp [results, Tryz.results107, go_sem, c0, c1, c2, hz1]) rfl ⟨rfl, (bset3 (balloc hb1) _ _ _).alloc (by simp; omega) _⟩
set_option maxRecDepth 100000 in
set_option maxHeartbeats 4000000 in
theorem dec_Token_whole (l : List UInt8) (w : World) (hl : l.length ≤ 64) (h : (radixL l).ok = false) (h2 : (wholeT l).2 = true) :
  Calls Tryz.prog 107 #[.string (bs l)] w fun e w' => e = .returned (tokInt (wholeT l).1).val ∧ Below w.heap.size w w' := by
 have hs := bs_size l
 have hR := fun w => dec_radix l w (by omega)
 have hW := fun w => dec_whole l w (by omega)
 generalize radixL l = R at *
 generalize wholeT l = V at *
 obtain ⟨k, n, ok, er⟩ := R
 obtain ⟨v, vok⟩ := V
 simp only at h h2
 subst h h2
 simp only [TokR.val, tokInt] at hR hW ⊢
 go_enter func107, ntmps107
 go_wp2_with first | (go_at_call 121; go_must (refine (hR _).mono ?_); rintro e w1 ⟨rfl, hb1⟩; obtain ⟨c0, c1, c2, f0, f1, f2⟩ := tokCells hb1; have hz1 := hb1.size; simp at hz1; replace hz1 := Nat.lt_of_succ_le hz1) | (go_at_call 122; go_must (refine (hW _).mono ?_); rintro e w2 ⟨rfl, hb2⟩; replace hb2 := blay hb1 hb2; clear c0 c1 c2 f0 f1 f2; obtain ⟨c0, c1, c2, f0, f1, f2⟩ := tokCells hb2)
 refine bodyPost_ret (v := .tuple #[.agg #[.int .i64 1, .int .i64 v, .string ⟨#[]⟩], .bool true, .int .i64 0]) (by simp [results, Tryz.results107, go_sem, c0, c1, c2]) rfl ⟨rfl, bset3 (balloc hb2) _ _ _⟩
theorem powerL_bound (l : List UInt8) : -1000 ≤ (powerL l).1 ∧ (powerL l).1 ≤ 1000 := by
 unfold powerL
 split
 ·
  simp
 ·
  next h =>
  simp only [Bool.or_eq_true, decide_eq_true_eq, Bool.not_eq_true', not_or, Bool.not_eq_false] at h
  obtain ⟨⟨h1, h2⟩, h3⟩ := h
  have h4 := natOf_lt (signedL l).2 (List.all_eq_true.1 h3)
  have h5 : 10 ^ (signedL l).2.length ≤ 10 ^ 3 := Nat.pow_le_pow_right (by decide) (by omega)
  generalize natOf (signedL l).2 = N at *
  split
  ·
   simp only; omega
  ·
   simp only; omega
set_option maxRecDepth 100000 in
set_option maxHeartbeats 8000000 in
theorem dec_Token_plain (l : List UInt8) (w : World) (hl : l.length ≤ 64) (h : (radixL l).ok = false) (h2 : (wholeT l).2 = false) (h3 : (cutE (signedL l).2).2.2 = false) :
  Calls Tryz.prog 107 #[.string (bs l)] w fun e w' => e = .returned (finL (signedL l).1 (signedL l).2 0).val ∧ Below w.heap.size w w' := by
 have hs := bs_size l
 have hR := fun w => dec_radix l w (by omega)
 have hW := fun w => dec_whole l w (by omega)
 have hS := fun w => dec_signed l w (by omega)
 have hlen := signedL_len l
 generalize radixL l = R at *
 generalize wholeT l = V at *
 generalize signedL l = sr at *
 obtain ⟨k, n, ok, er⟩ := R
 obtain ⟨v, vok⟩ := V
 obtain ⟨m, r⟩ := sr
 simp only at h h2 h3 hlen hS ⊢
 subst h h2
 simp only [TokR.val] at hR hW
 have hI : ∀ w, Calls Tryz.prog 123 #[.string (bs r), .string ⟨#[101, 69]⟩] w fun e w' => e = .returned (.int .i64 (-1)) ∧ Below w.heap.size w w' := fun w => by
  have h := lib_IndexAny r w (by omega)
  unfold idxE at h
  rw [h3] at h
  exact h
 have hM := fun w => dec_mantissa r w (by omega)
 have hcl := cutDot_len r
 have hok := mantOk_digits r
 unfold finL
 generalize mantOk r = ok at *
 generalize cutDot r = pq at *
 obtain ⟨A, B, f⟩ := pq
 simp only at hM hok hcl
 clear h3
 cases ok with
 | false =>
  clear hok
  go_enter func107, ntmps107
  go_wp2_with first | (go_at_call 121; go_must (refine (hR _).mono ?_); rintro e w1 ⟨rfl, hb1⟩; obtain ⟨c0, c1, c2, f0, f1, f2⟩ := tokCells hb1; have hz1 := hb1.size; simp at hz1; replace hz1 := Nat.lt_of_succ_le hz1) | (go_at_call 122; go_must (refine (hW _).mono ?_); rintro e w2 ⟨rfl, hb2⟩; replace hb2 := blay hb1 hb2; clear c0 c1 c2 f0 f1 f2; obtain ⟨c0, c1, c2, f0, f1, f2⟩ := tokCells hb2) | (go_at_call 118; go_must (refine (hS _).mono ?_); rintro e w3 ⟨rfl, hb3⟩; replace hb3 := btr hb2 hb3; clear c0 c1 c2 f0 f1 f2; obtain ⟨c0, c1, c2, f0, f1, f2⟩ := tokCells hb3) | (go_at_call 123; go_must (refine (hI _).mono ?_); rintro e w4 ⟨rfl, hb4⟩; replace hb4 := btr hb3 hb4; clear c0 c1 c2 f0 f1 f2; obtain ⟨c0, c1, c2, f0, f1, f2⟩ := tokCells hb4) | (go_at_call 119; go_must (refine (hM _).mono ?_); rintro e w5 ⟨rfl, hb5⟩; replace hb5 := btr hb4 hb5; clear c0 c1 c2 f0 f1 f2; obtain ⟨c0, c1, c2, f0, f1, f2⟩ := tokCells hb5)
  exact bodyPost_ret (v := tokNone.val) (by simp [results, Tryz.results107, go_sem, c0, c1, c2, TokR.val, tokNone]) rfl ⟨rfl, bset3 (balloc hb5) _ _ _⟩
 | true =>
  obtain ⟨hA, hB⟩ := hok rfl
  rw [if_pos rfl]
  have hAB : ∀ c ∈ A ++ B, isDig c = true := by
   intro c hc
   rcases List.mem_append.1 hc with h | h
   ·
    exact hA c h
   ·
    exact hB c h
  have hSh := fun w => dec_shift A B 0 w (by omega) (by omega) (by omega)
  have hV := fun w => dec_value m (wholeD (A ++ B) (A.length + 0)) (restD (A ++ B) (A.length + 0)) w (by simp [restD]; omega) (wholeD_digits _ _ hAB) (restD_digits _ _ hAB)
  clear hok hA hB hAB
  simp only
  generalize wholeD (A ++ B) (A.length + 0) = W at *
  generalize restD (A ++ B) (A.length + 0) = D at *
  generalize valueL m W D = vv at *
  obtain ⟨n2, fit⟩ := vv
  simp only at hV
  cases fit
  all_goals
   go_enter func107, ntmps107
   go_wp2_with first | (go_at_call 121; go_must (refine (hR _).mono ?_); rintro e w1 ⟨rfl, hb1⟩; obtain ⟨c0, c1, c2, f0, f1, f2⟩ := tokCells hb1; have hz1 := hb1.size; simp at hz1; replace hz1 := Nat.lt_of_succ_le hz1) | (go_at_call 122; go_must (refine (hW _).mono ?_); rintro e w2 ⟨rfl, hb2⟩; replace hb2 := blay hb1 hb2; clear c0 c1 c2 f0 f1 f2; obtain ⟨c0, c1, c2, f0, f1, f2⟩ := tokCells hb2) | (go_at_call 118; go_must (refine (hS _).mono ?_); rintro e w3 ⟨rfl, hb3⟩; replace hb3 := btr hb2 hb3; clear c0 c1 c2 f0 f1 f2; obtain ⟨c0, c1, c2, f0, f1, f2⟩ := tokCells hb3) | (go_at_call 123; go_must (refine (hI _).mono ?_); rintro e w4 ⟨rfl, hb4⟩; replace hb4 := btr hb3 hb4; clear c0 c1 c2 f0 f1 f2; obtain ⟨c0, c1, c2, f0, f1, f2⟩ := tokCells hb4) | (go_at_call 119; go_must (refine (hM _).mono ?_); rintro e w5 ⟨rfl, hb5⟩; replace hb5 := btr hb4 hb5; clear c0 c1 c2 f0 f1 f2; obtain ⟨c0, c1, c2, f0, f1, f2⟩ := tokCells hb5) | (go_at_call 125; go_must (refine (hSh _).mono ?_); rintro e w6 ⟨rfl, hb6⟩; replace hb6 := btr hb5 hb6; clear c0 c1 c2 f0 f1 f2; obtain ⟨c0, c1, c2, f0, f1, f2⟩ := tokCells hb6) | (go_at_call 120; go_must (refine (hV _).mono ?_); rintro e w7 ⟨rfl, hb7⟩; replace hb7 := btr hb6 hb7; clear c0 c1 c2 f0 f1 f2; obtain ⟨c0, c1, c2, f0, f1, f2⟩ := tokCells hb7)
  ·
   exact bodyPost_ret (v := tokGreat.val) (by simp [results, Tryz.results107, go_sem, c0, c1, c2, TokR.val, tokGreat]) rfl ⟨rfl, bset3 (balloc hb7) _ _ _⟩
  ·
   exact bodyPost_ret (v := (tokReal n2).val) (by simp [results, Tryz.results107, go_sem, c0, c1, c2, TokR.val, tokReal]) rfl ⟨rfl, bset3 (balloc hb7) _ _ _⟩
set_option maxRecDepth 100000 in
set_option maxHeartbeats 8000000 in
theorem dec_Token_power (l : List UInt8) (w : World) (hl : l.length ≤ 64) (h : (radixL l).ok = false) (h2 : (wholeT l).2 = false) (h3 : (cutE (signedL l).2).2.2 = true) :
  Calls Tryz.prog 107 #[.string (bs l)] w fun e w' => e = .returned (if (powerL (cutE (signedL l).2).2.1).2 then finL (signedL l).1 (cutE (signedL l).2).1 (powerL (cutE (signedL l).2).2.1).1 else tokNone).val ∧ Below w.heap.size w w' := by
 have hs := bs_size l
 have hR := fun w => dec_radix l w (by omega)
 have hW := fun w => dec_whole l w (by omega)
 have hS := fun w => dec_signed l w (by omega)
 have hlen := signedL_len l
 generalize radixL l = R at *
 generalize wholeT l = V at *
 generalize signedL l = sr at *
 obtain ⟨k, n, ok, er⟩ := R
 obtain ⟨v, vok⟩ := V
 obtain ⟨m, r⟩ := sr
 simp only at h h2 h3 hlen hS ⊢
 subst h h2
 simp only [TokR.val] at hR hW
 have hI := fun w => lib_IndexAny r w (by omega)
 obtain ⟨x, -, hrx⟩ := cutE_yes_join r h3
 have hel := cutE_len r
 unfold idxE at hI
 generalize cutE r = cc at *
 obtain ⟨p, q, fd⟩ := cc
 simp only at h3 hrx hI hel ⊢
 subst h3
 rw [if_pos rfl] at hI
 change ∀ w, Calls Tryz.prog 123 #[.string (bs r), .string ⟨#[101, 69]⟩] w _ at hI
 have hrs : (bs r).size = p.length + (q.length + 1) := by rw [bs_size, hrx]; simp
 have hx1 : (bs r).extract (p.length + 1) (p.length + (q.length + 1)) = bs q := by
  rw [← hrs, ext_drop _ _ _ (bs_size r), hrx, List.append_cons, List.drop_left' (by simp)]
 have hx2 : (bs r).extract 0 p.length = bs p := by
  rw [ext_take, hrx]; simp
 have hP := fun w => dec_power q w (by omega)
 obtain ⟨hpb1, hpb2⟩ := powerL_bound q
 have hrl : p.length + (q.length + 1) ≤ 64 := by have h := bs_size r; omega
 have hM := fun w => dec_mantissa p w (by omega)
 have hcl := cutDot_len p
 have hok := mantOk_digits p
 generalize powerL q = pw at *
 obtain ⟨by', pok⟩ := pw
 unfold finL
 simp only at hP hpb1 hpb2 ⊢
 clear hrx hlen hel
 cases pok with
 | false =>
  clear hok
  go_enter func107, ntmps107
  go_wp2_with first | (go_at_call 121; go_must (refine (hR _).mono ?_); rintro e w1 ⟨rfl, hb1⟩; obtain ⟨c0, c1, c2, f0, f1, f2⟩ := tokCells hb1; have hz1 := hb1.size; simp at hz1; replace hz1 := Nat.lt_of_succ_le hz1) | (go_at_call 122; go_must (refine (hW _).mono ?_); rintro e w2 ⟨rfl, hb2⟩; replace hb2 := blay hb1 hb2; clear c0 c1 c2 f0 f1 f2; obtain ⟨c0, c1, c2, f0, f1, f2⟩ := tokCells hb2) | (go_at_call 118; go_must (refine (hS _).mono ?_); rintro e w3 ⟨rfl, hb3⟩; replace hb3 := btr hb2 hb3; clear c0 c1 c2 f0 f1 f2; obtain ⟨c0, c1, c2, f0, f1, f2⟩ := tokCells hb3) | (go_at_call 123; go_must (refine (hI _).mono ?_); rintro e w4 ⟨rfl, hb4⟩; replace hb4 := btr hb3 hb4; clear c0 c1 c2 f0 f1 f2; obtain ⟨c0, c1, c2, f0, f1, f2⟩ := tokCells hb4) | (go_at_call 124; go_must (refine (hP _).mono ?_); rintro e w5 ⟨rfl, hb5⟩; replace hb5 := btr hb4 hb5; clear c0 c1 c2 f0 f1 f2; obtain ⟨c0, c1, c2, f0, f1, f2⟩ := tokCells hb5)
  exact bodyPost_ret (v := tokNone.val) (by simp [results, Tryz.results107, go_sem, c0, c1, c2, TokR.val, tokNone]) rfl ⟨rfl, bset3 (balloc hb5) _ _ _⟩
 | true =>
  rw [if_pos rfl]
  generalize mantOk p = ok at *
  generalize cutDot p = pq at *
  obtain ⟨A, B, f⟩ := pq
  simp only at hM hok hcl
  cases ok with
  | false =>
   clear hok
   go_enter func107, ntmps107
   go_wp2_with first | (go_at_call 121; go_must (refine (hR _).mono ?_); rintro e w1 ⟨rfl, hb1⟩; obtain ⟨c0, c1, c2, f0, f1, f2⟩ := tokCells hb1; have hz1 := hb1.size; simp at hz1; replace hz1 := Nat.lt_of_succ_le hz1) | (go_at_call 122; go_must (refine (hW _).mono ?_); rintro e w2 ⟨rfl, hb2⟩; replace hb2 := blay hb1 hb2; clear c0 c1 c2 f0 f1 f2; obtain ⟨c0, c1, c2, f0, f1, f2⟩ := tokCells hb2) | (go_at_call 118; go_must (refine (hS _).mono ?_); rintro e w3 ⟨rfl, hb3⟩; replace hb3 := btr hb2 hb3; clear c0 c1 c2 f0 f1 f2; obtain ⟨c0, c1, c2, f0, f1, f2⟩ := tokCells hb3) | (go_at_call 123; go_must (refine (hI _).mono ?_); rintro e w4 ⟨rfl, hb4⟩; replace hb4 := btr hb3 hb4; clear c0 c1 c2 f0 f1 f2; obtain ⟨c0, c1, c2, f0, f1, f2⟩ := tokCells hb4) | (go_at_call 124; go_must (refine (hP _).mono ?_); rintro e w5 ⟨rfl, hb5⟩; replace hb5 := btr hb4 hb5; clear c0 c1 c2 f0 f1 f2; obtain ⟨c0, c1, c2, f0, f1, f2⟩ := tokCells hb5) | (go_at_call 119; go_must (refine (hM _).mono ?_); rintro e w6 ⟨rfl, hb6⟩; replace hb6 := btr hb5 hb6; clear c0 c1 c2 f0 f1 f2; obtain ⟨c0, c1, c2, f0, f1, f2⟩ := tokCells hb6)
   exact bodyPost_ret (v := tokNone.val) (by simp [results, Tryz.results107, go_sem, c0, c1, c2, TokR.val, tokNone]) rfl ⟨rfl, bset3 (balloc hb6) _ _ _⟩
  | true =>
   obtain ⟨hA, hB⟩ := hok rfl
   rw [if_pos rfl]
   have hAB : ∀ c ∈ A ++ B, isDig c = true := by
    intro c hc
    rcases List.mem_append.1 hc with h | h
    ·
     exact hA c h
    ·
     exact hB c h
   have hSh := fun w => dec_shift A B by' w (by omega) (by omega) (by omega)
   have hV := fun w => dec_value m (wholeD (A ++ B) (A.length + by')) (restD (A ++ B) (A.length + by')) w (by simp [restD]; omega) (wholeD_digits _ _ hAB) (restD_digits _ _ hAB)
   clear hok hA hB hAB
   simp only
   generalize wholeD (A ++ B) (A.length + by') = W at *
   generalize restD (A ++ B) (A.length + by') = D at *
   generalize valueL m W D = vv at *
   obtain ⟨n2, fit⟩ := vv
   simp only at hV
   cases fit
   all_goals
    go_enter func107, ntmps107
    go_wp2_with first | (go_at_call 121; go_must (refine (hR _).mono ?_); rintro e w1 ⟨rfl, hb1⟩; obtain ⟨c0, c1, c2, f0, f1, f2⟩ := tokCells hb1; have hz1 := hb1.size; simp at hz1; replace hz1 := Nat.lt_of_succ_le hz1) | (go_at_call 122; go_must (refine (hW _).mono ?_); rintro e w2 ⟨rfl, hb2⟩; replace hb2 := blay hb1 hb2; clear c0 c1 c2 f0 f1 f2; obtain ⟨c0, c1, c2, f0, f1, f2⟩ := tokCells hb2) | (go_at_call 118; go_must (refine (hS _).mono ?_); rintro e w3 ⟨rfl, hb3⟩; replace hb3 := btr hb2 hb3; clear c0 c1 c2 f0 f1 f2; obtain ⟨c0, c1, c2, f0, f1, f2⟩ := tokCells hb3) | (go_at_call 123; go_must (refine (hI _).mono ?_); rintro e w4 ⟨rfl, hb4⟩; replace hb4 := btr hb3 hb4; clear c0 c1 c2 f0 f1 f2; obtain ⟨c0, c1, c2, f0, f1, f2⟩ := tokCells hb4) | (go_at_call 124; go_must (refine (hP _).mono ?_); rintro e w5 ⟨rfl, hb5⟩; replace hb5 := btr hb4 hb5; clear c0 c1 c2 f0 f1 f2; obtain ⟨c0, c1, c2, f0, f1, f2⟩ := tokCells hb5) | (go_at_call 119; go_must (refine (hM _).mono ?_); rintro e w6 ⟨rfl, hb6⟩; replace hb6 := btr hb5 hb6; clear c0 c1 c2 f0 f1 f2; obtain ⟨c0, c1, c2, f0, f1, f2⟩ := tokCells hb6) | (go_at_call 125; go_must (refine (hSh _).mono ?_); rintro e w7 ⟨rfl, hb7⟩; replace hb7 := btr hb6 hb7; clear c0 c1 c2 f0 f1 f2; obtain ⟨c0, c1, c2, f0, f1, f2⟩ := tokCells hb7) | (go_at_call 120; go_must (refine (hV _).mono ?_); rintro e w8 ⟨rfl, hb8⟩; replace hb8 := btr hb7 hb8; clear c0 c1 c2 f0 f1 f2; obtain ⟨c0, c1, c2, f0, f1, f2⟩ := tokCells hb8)
   ·
    exact bodyPost_ret (v := tokGreat.val) (by simp [results, Tryz.results107, go_sem, c0, c1, c2, TokR.val, tokGreat]) rfl ⟨rfl, bset3 (balloc hb8) _ _ _⟩
   ·
    exact bodyPost_ret (v := (tokReal n2).val) (by simp [results, Tryz.results107, go_sem, c0, c1, c2, TokR.val, tokReal]) rfl ⟨rfl, bset3 (balloc hb8) _ _ _⟩
theorem dec_Token (l : List UInt8) (w : World) :
  Calls Tryz.prog 107 #[.string (bs l)] w fun e w' => e = .returned (tokenL l).val ∧ Below w.heap.size w w' := by
 unfold tokenL
 by_cases hl : 64 < l.length
 ·
  rw [if_pos hl]; exact dec_Token_long l w hl
 ·
  rw [if_neg hl]
  have hl' : l.length ≤ 64 := by omega
  cases h : (radixL l).ok with
  | true => rw [if_pos rfl]; exact dec_Token_radix l w hl' h
  | false =>
   rw [if_neg (by decide)]
   cases h2 : (wholeT l).2 with
   | true => rw [if_pos rfl]; exact dec_Token_whole l w hl' h h2
   | false =>
    rw [if_neg (by decide)]
    unfold realL2
    cases h3 : (cutE (signedL l).2).2.2 with
    | true => rw [if_pos rfl]; exact dec_Token_power l w hl' h h2 h3
    | false => rw [if_neg (by decide)]; exact dec_Token_plain l w hl' h h2 h3
end
section
/-- ref.Token's real number -/
def realR (l : List UInt8) : TokR :=
 if (cutE l).2.2 then
  (if (powerL (cutE l).2.1).2 then finL (signedL (cutE l).1).1 (signedL (cutE l).1).2 (powerL (cutE l).2.1).1 else tokNone)
 else finL (signedL (cutE l).1).1 (signedL (cutE l).1).2 0
theorem signed_cutE (l : List UInt8) : signedL (cutE l).1 = ((signedL l).1, (cutE (signedL l).2).1) ∧ (cutE l).2 = (cutE (signedL l).2).2 := by
  cases l with
  | nil => exact ⟨rfl, rfl⟩
  | cons c r =>
    by_cases hE : isE c = true
    · have h1 : c ≠ 45 := by rintro rfl; exact absurd hE (by decide)
      have h2 : c ≠ 43 := by rintro rfl; exact absurd hE (by decide)
      simp [signedL, cutE, hE, h1, h2]
    · have hE' : isE c = false := by simpa using hE
      by_cases h1 : c = 45
      · subst h1; simp [signedL, cutE, hE']
      · by_cases h2 : c = 43
        · subst h2; simp [signedL, cutE, hE']
        · simp [signedL, cutE, hE', h1, h2]
theorem realR_eq (l : List UInt8) : realR l = realL2 l := by
 obtain ⟨h1, h2⟩ := signed_cutE l
 unfold realR realL2
 rw [h1, h2]
 cases hf : (cutE (signedL l).2).2.2 with
 | true => rfl
 | false =>
  simp only [Bool.false_eq_true, if_false]
  rw [(cutE_no_join _ hf).1]
theorem signedL_dig (c : UInt8) (r : List UInt8) (h : isDig c = true) : signedL (c :: r) = (false, c :: r) := by
 have h1 : c ≠ 45 := by rintro rfl; exact absurd h (by decide)
 have h2 : c ≠ 43 := by rintro rfl; exact absurd h (by decide)
 simp [signedL, h1, h2]
theorem tokenL_plain (l : List UInt8) (hl : l.length ≤ 64) (h : radixOk l = false) : tokenL l = if (wholeT l).2 then tokInt (wholeT l).1 else realR l := by
 have hr : (radixL l).ok = false := by unfold radixL; rw [h]; rfl
 unfold tokenL
 rw [if_neg (by omega), hr, realR_eq]
 rfl
end
section
def blankB (c : UInt8) : Bool := c == 0 || c == 9 || c == 10 || c == 12 || c == 13 || c == 32
def endB (c : UInt8) : Bool := c == 10 || c == 12 || c == 13
def delimB (c : UInt8) : Bool := c == 40 || c == 41 || c == 60 || c == 62 || c == 91 || c == 93 || c == 123 || c == 125 || c == 47 || c == 37
def regB (c : UInt8) : Bool := !blankB c && !delimB c
theorem endB_blank {c : UInt8} (h : endB c = true) : blankB c = true := by
 simp only [endB, Bool.or_eq_true, beq_iff_eq] at h
 rcases h with (rfl | rfl) | rfl <;> rfl
/-- what is behind blanks and comments; true: in a comment -/
def skipS : Bool → List UInt8 → List UInt8
 | _, [] => []
 | false, c :: r => if c = 37 then skipS true r else if blankB c then skipS false r else c :: r
 | true, c :: r => if endB c then skipS false (r) else skipS true r
theorem skipS_len : ∀ (l : List UInt8) (m : Bool), (skipS m l).length ≤ l.length
 | [], m => by cases m <;> simp [skipS]
 | c :: r, false => by
  have h1 := skipS_len r true; have h2 := skipS_len r false
  simp only [skipS]; split
  ·
   simp; omega
  ·
   split <;> simp <;> omega
 | c :: r, true => by
  have h1 := skipS_len r true; have h2 := skipS_len r false
  simp only [skipS]; split <;> simp <;> omega
theorem skipS_suffix : ∀ (l : List UInt8) (m : Bool), ∃ k, k ≤ l.length ∧ skipS m l = l.drop k
 | [], m => ⟨0, Nat.le_refl _, by cases m <;> rfl⟩
 | c :: r, false => by
  obtain ⟨k1, a1, b1⟩ := skipS_suffix r true; obtain ⟨k2, a2, b2⟩ := skipS_suffix r false
  simp only [skipS]; split
  ·
   exact ⟨k1 + 1, by simp; omega, by rw [b1]; rfl⟩
  ·
   split
   ·
    exact ⟨k2 + 1, by simp; omega, by rw [b2]; rfl⟩
   ·
    exact ⟨0, Nat.zero_le _, rfl⟩
 | c :: r, true => by
  obtain ⟨k1, a1, b1⟩ := skipS_suffix r true; obtain ⟨k2, a2, b2⟩ := skipS_suffix r false
  simp only [skipS]; split
  ·
   exact ⟨k2 + 1, by simp; omega, by rw [b2]; rfl⟩
  ·
   exact ⟨k1 + 1, by simp; omega, by rw [b1]; rfl⟩
/-- without a line feed ahead -/
def dropLF : List UInt8 → List UInt8
 | c :: r => if c = 10 then r else c :: r
 | [] => []
theorem dropLF_len (l : List UInt8) : (dropLF l).length ≤ l.length := by
 cases l with
 | nil => simp [dropLF]
 | cons c r => simp only [dropLF]; split <;> simp
def octB (c : UInt8) : Bool := decide (48 ≤ c.toNat) && decide (c.toNat ≤ 55)
/-- up to k more octal digits: the number, what is left -/
def octS : Nat → Nat → List UInt8 → Nat × List UInt8
 | 0, n, l => (n, l)
 | _ + 1, n, [] => (n, [])
 | k + 1, n, c :: r => if octB c then octS k (8 * n + (c.toNat - 48)) r else (n, c :: r)
theorem octS_len : ∀ (k n : Nat) (l : List UInt8), (octS k n l).2.length ≤ l.length
 | 0, n, l => Nat.le_refl _
 | _ + 1, n, [] => Nat.le_refl _
 | k + 1, n, c :: r => by
  have := octS_len k (8 * n + (c.toNat - 48)) r
  simp only [octS]; split <;> simp <;> omega
/-- what stands behind a \ and the byte c: the bytes, what is left -/
def escS (c : UInt8) (r : List UInt8) : List UInt8 × List UInt8 :=
 if c = 110 then ([10], r) else if c = 114 then ([13], r) else if c = 116 then ([9], r) else if c = 98 then ([8], r) else if c = 102 then ([12], r)
 else if c = 10 then ([], r) else if c = 13 then ([], dropLF r)
 else if octB c then ([ch ((octS 2 (c.toNat - 48) r).1 % 256 : Nat)], (octS 2 (c.toNat - 48) r).2) else ([c], r)
theorem escS_len (c : UInt8) (r : List UInt8) : (escS c r).2.length ≤ r.length := by
 have h1 := dropLF_len r
 have h2 := octS_len 2 (c.toNat - 48) r
 unfold escS
 repeat' split
 all_goals first | exact Nat.le_refl _ | assumption
/-- a string in round brackets -/
def roundS (d : Nat) (o : List UInt8) (l : List UInt8) : Option (List UInt8 × List UInt8) :=
 match l with
 | [] => none
 | c :: r =>
  if c = 40 then roundS (d + 1) (o ++ [c]) r
  else if c = 41 then (if d = 1 then some (o, r) else roundS (d - 1) (o ++ [c]) r)
  else if c = 92 then
   match r with
   | [] => none
   | e :: r' => roundS d (o ++ (escS e r').1) (escS e r').2
  else if c = 13 then roundS d (o ++ [10]) (dropLF r)
  else roundS d (o ++ [c]) r
termination_by l.length
decreasing_by
 all_goals simp_wf
 ·
  have := escS_len e r'; omega
 ·
  have := dropLF_len r; omega
/-- a hexadecimal digit, or none -/
def hexD (c : UInt8) : Option Nat := if hexN c < 16 then some (hexN c) else none
/-- a string in pointed brackets -/
def hexS : Option Nat → List UInt8 → List UInt8 → Option (List UInt8 × List UInt8)
 | _, _, [] => none
 | h, o, c :: r =>
  if blankB c then hexS h o r
  else if c = 62 then some (match h with | none => o | some x => o ++ [ch (x * 16 : Nat)], r)
  else match hexD c with
   | none => none
   | some d => match h with
    | none => hexS (some d) o r
    | some x => hexS none (o ++ [ch (x * 16 + d : Nat)]) r
/-- a token: its kind, number and text -/
structure TokV where
 kind : Int
 n : Int
 text : List UInt8
def TokV.val (t : TokV) : Value := .agg #[.int .i64 t.kind, .int .i64 t.n, .string (bs t.text)]
/-- a token and what is left, or an error's number -/
abbrev TokE := Except Int (TokV × List UInt8)
def textS (o : Option (List UInt8 × List UInt8)) : TokE :=
 match o with
 | none => .error 14
 | some (s, r) => if 65535 < s.length then .error 9 else .ok (⟨6, 0, s⟩, r)
def nameS (k : Int) (l : List UInt8) : TokE :=
 if 127 < (l.takeWhile regB).length then .error 9 else .ok (⟨k, 0, l.takeWhile regB⟩, l.dropWhile regB)
def angleS (c : UInt8) (r : List UInt8) : TokE :=
 match r with
 | d :: r' => if d = c then .ok (⟨3, 0, [c, c]⟩, r') else if c = 60 then textS (hexS none [] (d :: r')) else .error 14
 | [] => if c = 60 then textS (hexS none [] []) else .error 14
def slashS (r : List UInt8) : TokE :=
 match r with
 | d :: r' => if d = 47 then nameS 5 r' else nameS 4 (d :: r')
 | [] => nameS 4 []
def wordS (l : List UInt8) : TokE :=
 let t := tokenL (l.takeWhile regB)
 if t.e ≠ 0 then .error t.e else if t.ok then .ok (⟨t.kind, t.n, []⟩, l.dropWhile regB) else nameS 3 l
def tokS (l : List UInt8) : TokE :=
 match skipS false l with
 | [] => .ok (⟨0, 0, []⟩, [])
 | c :: r =>
  if c = 40 then textS (roundS 1 [] r)
  else if c = 41 then .error 14
  else if c = 60 ∨ c = 62 then angleS c r
  else if c = 123 then .ok (⟨7, 0, []⟩, r)
  else if c = 125 then .ok (⟨8, 0, []⟩, r)
  else if c = 91 ∨ c = 93 then .ok (⟨3, 0, [c]⟩, r)
  else if c = 47 then slashS r
  else wordS (c :: r)
end
section
/-- what is known of a frame: slots and values, the latest first -/
abbrev Fr := List (Nat × Value)
def look : Fr → Nat → Option Value
 | [], _ => none
 | (j, v) :: r, i => bif Nat.beq j i then some v else look r i
def evo (f : Fr) : Operand → Option Value
 | .tmp t => look f t
 | .const v => some v
 | .global g => some (.pointer (some ⟨g, 0, none⟩))
 | .func k => some (.func (.func k) #[] #[])
def Sub : Fr → Fr → Prop
 | [], _ => True
 | (j, v) :: g, f => look f j = some v ∧ Sub g f
theorem Sub.look {g f : Fr} (h : Sub g f) {i : Nat} {v : Value} (hv : look g i = some v) : look f i = some v := by
 induction g with
 | nil => cases hv
 | cons p g ih =>
  obtain ⟨j, u⟩ := p
  unfold Go.Proofs.YthljhjcndpnleaaGreatDoor.look at hv
  cases hb : Nat.beq j i with
  | true =>
   rw [hb] at hv
   obtain rfl : j = i := Nat.eq_of_beq_eq_true hb
   rw [h.1]; exact hv
  | false => rw [hb] at hv; exact ih h.2 hv
/-- a frame's shape: its slots, its deferred calls -/
structure Sh where
 n : Nat
 D : List Deferred
/-- a frame of this shape of which this is known -/
def Rep (n : Sh) (f : Fr) (a : Act) : Prop := a.defers = n.D ∧ a.tmps.size = n.n ∧ ∀ i v, look f i = some v → a.tmps.getD i undef = v
theorem Rep.sub {n : Sh} {f g : Fr} {a : Act} (h : Rep n f a) (hs : Sub g f) : Rep n g a := ⟨h.1, h.2.1, fun i v hv => h.2.2 i v (hs.look hv)⟩
theorem Rep.put {n : Sh} {f : Fr} {a : Act} (h : Rep n f a) {d : Nat} (hd : Nat.blt d n.n = true) (v : Value) : Rep n ((d, v) :: f) (a.put (some d) v) := by
 have hdn : d < n.n := by simpa [Nat.blt_eq] using hd
 refine ⟨h.1, by simp [Act.put, h.2.1], fun i u hu => ?_⟩
 show (a.tmps.setIfInBounds d v).getD i undef = u
 unfold look at hu
 cases hb : Nat.beq d i with
 | true =>
  obtain rfl : d = i := Nat.eq_of_beq_eq_true hb
  simp only [hb, cond_true, Option.some.injEq] at hu
  subst hu
  simp [Array.getD, h.2.1, hdn]
 | false =>
  simp only [hb, cond_false] at hu
  have hne : d ≠ i := fun e => by rw [e, Nat.beq_refl] at hb; cases hb
  have := h.2.2 i u hu
  simp only [Array.getD_eq_getD_getElem?] at this ⊢
  rw [Array.getElem?_setIfInBounds_ne hne]; exact this
/-- an evaluation of operands that agrees with what is known -/
def Agr (f : Fr) (ρ : Operand → Value) : Prop := ∀ x v, evo f x = some v → ρ x = v
theorem Rep.agr {n : Sh} {f : Fr} {a : Act} (h : Rep n f a) : Agr f a.eval := by
 intro x v hx
 cases x with
 | tmp t => exact h.2.2 t v hx
 | const u => exact Option.some.inj hx
 | global g => exact Option.some.inj hx
 | func k => exact Option.some.inj hx
section
variable {P : Program} {n : Sh}
def lift (n : Sh) (Q : Exit → Fr → World → Prop) : Exit → Act → World → Prop := fun e a w => ∃ f, Rep n f a ∧ Q e f w
def W (P : Program) (n : Sh) (c : Code) (Q : Exit → Fr → World → Prop) (f : Fr) (w : World) : Prop := ∀ a, Rep n f a → c.wp P (lift n Q) a w
def WL (P : Program) (n : Sh) (ops : Array Oper) (Q : Exit → Fr → World → Prop) (l : List Oper) (f : Fr) (w : World) : Prop := ∀ a, Rep n f a → wpList P ops (lift n Q) l a w
/-- what comes next -/
def nx (K : Fr → World → Prop) (Q : Exit → Fr → World → Prop) : Exit → Fr → World → Prop
 | .normal, f, w => K f w
 | e, f, w => Q e f w
def inb (id : Nat) (Q : Exit → Fr → World → Prop) : Exit → Fr → World → Prop
 | .exit i, f, w => bif Nat.beq i id then Q .normal f w else Q (.exit i) f w
 | e, f, w => Q e f w
theorem W.weaken {c : Code} {Q : Exit → Fr → World → Prop} {f : Fr} {w : World} (g : Fr) (hs : Sub g f) (h : W P n c Q g w) : W P n c Q f w :=
 fun a ha => h a (ha.sub hs)
theorem W.mono {c : Code} {Q Q' : Exit → Fr → World → Prop} {f : Fr} {w : World} (h : W P n c Q f w) (hq : ∀ e f w, Q e f w → Q' e f w) : W P n c Q' f w :=
 fun a ha => wp_mono (h a ha) fun _ _ _ ⟨f', hr, hQ⟩ => ⟨f', hr, hq _ _ _ hQ⟩
theorem W.seq {x y : Code} {Q : Exit → Fr → World → Prop} {f : Fr} {w : World} (h : W P n x (nx (fun f w => W P n y Q f w) Q) f w) : W P n (.seq x y) Q f w := by
 intro a ha
 refine wp_seq (wp_mono (h a ha) ?_)
 rintro e a' w' ⟨f', hr, hQ⟩
 cases e with
 | normal => exact hQ a' hr
 | _ => exact ⟨f', hr, hQ⟩
theorem dT {p : Prop} [Decidable p] (h : decide p = true) : p := of_decide_eq_true h
theorem dF {p : Prop} [Decidable p] (h : decide p = false) : ¬p := of_decide_eq_false h
theorem oO {p : Prop} (h : p := by omega) : p := h
theorem aS {p : Prop} (h : p := by assumption) : p := h
theorem dD {p : Prop} (h : p := by decide) : p := h
theorem kR {p : Prop} (h : p := by kernel_rfl) : p := h
theorem oL {p : Prop} (h : p := by simp only [List.length_append, List.length_cons, List.length_nil, List.length_drop] at *; omega) : p := h
theorem oD {p : Prop} (h : p := by first | decide | exact Nat.le_of_ble_eq_true rfl) : p := h
theorem oM {p : Prop} (h : p := by ((try simp only) <;> omega)) : p := h
/-- a cut: what stands behind is walked once, from what the relation tells -/
theorem W.cut {α : Type} (R : α → Fr) (S : α → World → Prop) {x y : Code} {Q : Exit → Fr → World → Prop} {f : Fr} {w : World}
  (h1 : W P n x (nx (fun f' w' => ∃ t, Sub (R t) f' ∧ S t w') Q) f w) (h2 : ∀ t w', S t w' → W P n y Q (R t) w') : W P n (.seq x y) Q f w := by
 refine W.seq (h1.mono ?_)
 intro e f' w' h
 cases e with
 | normal => obtain ⟨t, hs, ht⟩ := h; exact (h2 t w' ht).weaken _ hs
 | _ => exact h
theorem W.skip {Q : Exit → Fr → World → Prop} {f : Fr} {w : World} (h : Q .normal f w) : W P n .skip Q f w := fun _ ha => wp_skip ⟨f, ha, h⟩
theorem W.exit {Q : Exit → Fr → World → Prop} {f : Fr} {w : World} {id : Nat} (h : Q (.exit id) f w) : W P n (.exit id) Q f w := fun _ ha => wp_exit ⟨f, ha, h⟩
theorem W.ret {Q : Exit → Fr → World → Prop} {f : Fr} {w : World} (h : Q .ret f w) : W P n .ret Q f w := fun _ ha => wp_ret ⟨f, ha, h⟩
theorem W.block {Q : Exit → Fr → World → Prop} {f : Fr} {w : World} {id : Nat} {c : Code} (h : W P n c (inb id Q) f w) : W P n (.block id c) Q f w := by
 intro a ha
 refine wp_block (wp_mono (h a ha) ?_)
 rintro e a' w' ⟨f', hr, hQ⟩
 cases e with
 | exit i =>
  simp only [Exit.inBlock]
  by_cases hi : i = id
  ·
   subst hi
   rw [if_pos rfl]
   simp only [inb, Nat.beq_refl, cond_true] at hQ
   exact ⟨f', hr, hQ⟩
  ·
   rw [if_neg hi]
   have hb : Nat.beq i id = false := by
    cases h : Nat.beq i id with
    | false => rfl
    | true => exact absurd (Nat.eq_of_beq_eq_true h) hi
   simp only [inb, hb, cond_false] at hQ
   exact ⟨f', hr, hQ⟩
 | _ => exact ⟨f', hr, hQ⟩
theorem W.cond {Q : Exit → Fr → World → Prop} {f : Fr} {w : World} {c : Operand} {x y : Code} {t : Bool} (hc : evo f c = some (.bool t))
  (ht : t = true → W P n x Q f w) (hf : t = false → W P n y Q f w) : W P n (.cond c x y) Q f w :=
 fun a ha => wp_cond_split (ha.agr _ _ hc) (fun h => ht h a ha) (fun h => hf h a ha)
theorem W.condT {Q : Exit → Fr → World → Prop} {f : Fr} {w : World} {c : Operand} {x y : Code} {t : Bool} (hc : evo f c = some (.bool t)) (e : t = true)
  (h : W P n x Q f w) : W P n (.cond c x y) Q f w := W.cond hc (fun _ => h) (fun h' => by rw [e] at h'; cases h')
theorem W.condF {Q : Exit → Fr → World → Prop} {f : Fr} {w : World} {c : Operand} {x y : Code} {t : Bool} (hc : evo f c = some (.bool t)) (e : t = false)
  (h : W P n y Q f w) : W P n (.cond c x y) Q f w := W.cond hc (fun h' => by rw [e] at h'; cases h') (fun _ => h)
theorem W.loop {α : Type} (R : α → Fr) (S : α → World → Prop) (m : α → Nat) (t : α) {c : Code} {Q : Exit → Fr → World → Prop} {f : Fr} {w : World}
  (h0 : Sub (R t) f) (h1 : S t w) (round : ∀ t w, S t w → W P n c (nx (fun f' w' => ∃ u, Sub (R u) f' ∧ S u w' ∧ m u < m t) Q) (R t) w) : W P n (.loop c) Q f w := by
 intro a ha b k cs
 have key : ∀ k' t a w, m t = k' → Rep n (R t) a → S t w → ∃ e a' w', lift n Q e a' w' ∧ Arrives P (lone (b.at a (.code c :: .inLoop c :: k)) cs w) b k cs e a' w' := by
  intro k'
  induction k' using Nat.strongRecOn with
  | _ k' ih =>
   intro t a w hm hr hS
   obtain ⟨e, a1, w1, ⟨f1, hr1, hq⟩, harr⟩ := round t w hS a hr b (.inLoop c :: k) cs
   cases e with
   | normal =>
    obtain ⟨u, hs, hSu, hlt⟩ := hq
    obtain ⟨e2, a2, w2, hq2, harr2⟩ := ih (m u) (hm ▸ hlt) u a1 w1 rfl (hr1.sub hs) hSu
    exact ⟨e2, a2, w2, hq2, .of_steps (Steps.trans harr (.one step_inLoop)) harr2⟩
   | exit id => exact ⟨_, a1, w1, ⟨f1, hr1, hq⟩, .pass (x := .inLoop c) rfl (fun _ _ => .inl (by simp)) harr⟩
   | goto l => exact ⟨_, a1, w1, ⟨f1, hr1, hq⟩, .pass (x := .inLoop c) rfl (fun _ _ => .inl (by simp)) harr⟩
   | ret => exact ⟨_, a1, w1, ⟨f1, hr1, hq⟩, .pass (x := .inLoop c) rfl (fun _ _ => .inl (by simp)) harr⟩
   | panic ch => exact ⟨_, a1, w1, ⟨f1, hr1, hq⟩, .pass (x := .inLoop c) rfl (fun _ _ => .inl (by simp)) harr⟩
   | outgrown => exact ⟨_, a1, w1, ⟨f1, hr1, hq⟩, .pass (x := .inLoop c) rfl (fun _ _ => .inl (by simp)) harr⟩
 obtain ⟨e, a', w', hq, harr⟩ := key _ t a w rfl (ha.sub h0) h1
 exact ⟨e, a', w', hq, .of_steps (.one step_loop) harr⟩
theorem W.reg {Q : Exit → Fr → World → Prop} {f : Fr} {w : World} {id : Nat} {l : List Oper} (h : WL P n l.toArray Q l f w) : W P n (.region id l.toArray false) Q f w :=
 fun a ha => wp_region_lit (h a ha)
theorem W.sr {P : Program} {n : Sh} {id : Nat} {l : List Oper} {y : Code} {Q : Exit → Fr → World → Prop} {f : Fr} {w : World} (h : WL P n l.toArray (nx (fun f w => W P n y Q f w) Q) l f w) : W P n (.seq (.region id l.toArray false) y) Q f w := W.seq (W.reg h)
def number : Nat → List Value → Fr
 | _, [] => []
 | k, v :: r => (k, v) :: number (k + 1) r
theorem number_look (l : List Value) : ∀ k i v, look (number k l) i = some v → ∃ j, i = k + j ∧ l[j]? = some v := by
 induction l with
 | nil => intro k i v h; cases h
 | cons u r ih =>
  intro k i v h
  unfold number look at h
  cases hb : Nat.beq k i with
  | true =>
   simp only [hb, cond_true, Option.some.injEq] at h
   exact ⟨0, (Nat.eq_of_beq_eq_true hb).symm, by simp [h]⟩
  | false =>
   simp only [hb, cond_false] at h
   obtain ⟨j, e, hj⟩ := ih (k + 1) i v h
   exact ⟨j + 1, by omega, by simpa using hj⟩
/-- what a function hands back -/
def ResOk (P : Program) (fn : Func) (f : Fr) (w : World) (v : Value) : Prop := ∀ tmps : Array Value, (∀ i u, look f i = some u → tmps.getD i undef = u) → (results fn tmps).run P w = .ok v w
def Post (P : Program) (fn : Func) (R : Ending → World → Prop) : Exit → Fr → World → Prop
 | .normal, f, w | .ret, f, w => ∃ v, ResOk P fn f w v ∧ R (.returned v) w
 | .panic chain, _, w => R (.panicked chain) w
 | .outgrown, _, w => R .outgrown w
 | _, _, _ => False
theorem W.enter {F : FuncId} {fn : Func} {c : Code} {args : Array Value} {w : World} {R : Ending → World → Prop} (hf : P.funcs[F]? = some fn) (hb : fn.body = some c)
  {k : Nat} (hn : fn.ntmps = k) (hl : args.size ≤ k) (h : W P ⟨k, []⟩ c (Post P fn R) (number 0 args.toList) w) : Calls P F args w R := by
 refine calls_of_wp hf hb (wp_mono (h _ ⟨rfl, by simp [hn]; omega, ?_⟩) ?_)
 ·
  intro i v hv
  obtain ⟨j, e, hj⟩ := number_look _ _ _ _ hv
  obtain rfl : i = j := by omega
  have hlt : i < args.size := by
   rcases Nat.lt_or_ge i args.size with h | h
   ·
    exact h
   ·
    rw [List.getElem?_eq_none (by simpa using h)] at hj; cases hj
  have hj' : args[i]? = some v := by rw [← Array.getElem?_toList]; exact hj
  simp only [Array.getD_eq_getD_getElem?]
  rw [Array.getElem?_append_left hlt, hj']; rfl
 ·
  rintro e a' w' ⟨f', hr, hQ⟩
  cases e with
  | normal => obtain ⟨v, h1, h2⟩ := hQ; exact ⟨hr.1, v, h1 _ hr.2.2, h2⟩
  | ret => obtain ⟨v, h1, h2⟩ := hQ; exact ⟨hr.1, v, h1 _ hr.2.2, h2⟩
  | panic ch => exact ⟨hr.1, hQ⟩
  | outgrown => exact hQ
  | exit i => exact hQ.elim
  | goto l => exact hQ.elim
theorem W.ret0 {fn : Func} {R : Ending → World → Prop} {f : Fr} {w : World} (hr : fn.results = #[]) (h : R (.returned (.tuple #[])) w) : Post P fn R .ret f w :=
 ⟨_, fun _ _ => results_none hr _ _ _, h⟩
theorem W.ret1 {fn : Func} {R : Ending → World → Prop} {f : Fr} {w : World} {t : Tmp} {v : Value} (hr : fn.results = #[.tmp t]) (hv : look f t = some v)
  (h : R (.returned v) w) : Post P fn R .ret f w :=
 ⟨v, fun tmps ht => by rw [results_tmp hr, ht _ _ hv], h⟩
theorem W.ret2 {fn : Func} {R : Ending → World → Prop} {f : Fr} {w : World} {t u : Tmp} {v x : Value} (hr : fn.results = #[.tmp t, .tmp u]) (hv : look f t = some v) (hx : look f u = some x)
  (h : R (.returned (.tuple #[v, x])) w) : Post P fn R .ret f w :=
 ⟨_, fun tmps ht => by rw [results_tmp2 hr, ht _ _ hv, ht _ _ hx], h⟩
/-- the first result lies in memory -/
theorem W.retc3 {fn : Func} {R : Ending → World → Prop} {f : Fr} {w : World} {t u s : Tmp} {ty : TypeId} {b : Addr} {v x y : Value} (hr : fn.results = #[.cell t ty, .tmp u, .tmp s])
  (ht : look f t = some (.pointer (some b))) (hv : (loadVar ty b).run P w = .ok v w) (hx : look f u = some x) (hy : look f s = some y)
  (h : R (.returned (.tuple #[v, x, y])) w) : Post P fn R .ret f w :=
 ⟨_, fun tmps hh => by
  have e1 := hh _ _ ht; have e2 := hh _ _ hx; have e3 := hh _ _ hy
  simp only [Array.getD_eq_getD_getElem?] at e1 e2 e3
  simp [results, hr, e1, e2, e3, asAddr, hv], h⟩
/-- an operation that yields a value whatever the world -/
def Pure (P : Program) (op : Op) (f : Fr) (v : Value) : Prop := ∀ ρ, Agr f ρ → ∀ d ty pos aft g w, (execOp ρ ⟨d, op, ty, pos, aft, g⟩).run P w = .ok (.value v) w
theorem WL.nil {ops : Array Oper} {Q : Exit → Fr → World → Prop} {f : Fr} {w : World} (h : Q .normal f w) : WL P n ops Q [] f w := fun _ ha => wpList_nil ⟨f, ha, h⟩
/-- any operation by its run -/
theorem WL.run {ops : Array Oper} {Q : Exit → Fr → World → Prop} {f : Fr} {w w' : World} {rest : List Oper} {d ty : Nat} {pos : String} {aft : Array Edge} {op : Op} {v : Value} (hd : Nat.blt d n.n = true)
  (h : ∀ ρ, Agr f ρ → (execOp ρ ⟨some d, op, ty, pos, aft, none⟩).run P w = .ok (.value v) w') (k : WL P n ops Q rest ((d, v) :: f) w') : WL P n ops Q (⟨some d, op, ty, pos, aft, none⟩ :: rest) f w := by
 intro a ha
 refine wpList_plain rfl fun K hK => ?_
 unfold Oper.wp
 rw [h _ ha.agr]
 exact hK _ _ (k _ (ha.put hd v))
/-- an operation that yields nothing -/
theorem WL.act {ops : Array Oper} {Q : Exit → Fr → World → Prop} {f : Fr} {w w' : World} {rest : List Oper} {ty : Nat} {pos : String} {aft : Array Edge} {op : Op}
  (h : ∀ ρ, Agr f ρ → (execOp ρ ⟨none, op, ty, pos, aft, none⟩).run P w = .ok .skip w') (k : WL P n ops Q rest f w') : WL P n ops Q (⟨none, op, ty, pos, aft, none⟩ :: rest) f w := by
 intro a ha
 refine wpList_plain rfl fun K hK => ?_
 unfold Oper.wp
 rw [h _ ha.agr]
 exact hK _ _ (k _ ha)
theorem WL.p {ops : Array Oper} {Q : Exit → Fr → World → Prop} {f : Fr} {w : World} {rest : List Oper} {d ty : Nat} {pos : String} {aft : Array Edge} {op : Op} {v : Value}
  (h : Pure P op f v) (hd : Nat.blt d n.n = true) (k : WL P n ops Q rest ((d, v) :: f) w) : WL P n ops Q (⟨some d, op, ty, pos, aft, none⟩ :: rest) f w :=
 WL.run hd (fun ρ hρ => h ρ hρ _ _ _ _ _ _) k
/-- a guard: is the operation wanted -/
theorem WL.gd {ops : Array Oper} {Q : Exit → Fr → World → Prop} {f : Fr} {w : World} {rest : List Oper} {d ty : Nat} {pos : String} {aft : Array Edge} {op : Op} {j dj : Nat} {b t : Bool}
    (hj : (ops[j]?).bind (·.dst) = some dj) (ht : look f dj = some (.bool t)) (hd : Nat.blt d n.n = true)
    (hy : t = b → WL P n ops Q (⟨some d, op, ty, pos, aft, none⟩ :: rest) f w) (hn : t = !b → WL P n ops Q rest ((d, undef) :: f) w) :
    WL P n ops Q (⟨some d, op, ty, pos, aft, some (j, b)⟩ :: rest) f w := by
  intro a ha
  have hval := ha.2.2 _ _ ht
  have hyl : yielded ops a.tmps j = some t := by
    unfold yielded
    cases ho : ops[j]? with
    | none => rw [ho] at hj; cases hj
    | some o =>
      rw [ho] at hj
      simp only [Option.bind_some] at hj
      have h1 : a.tmps[dj]? = some (.bool t) := by
        cases h : a.tmps[dj]? with
        | none => rw [Array.getD_eq_getD_getElem?, h] at hval; cases hval
        | some v => rw [Array.getD_eq_getD_getElem?, h] at hval; exact congrArg some hval
      simp [hj, h1]
  by_cases hb : t = b
  · have := hy hb a ha
    unfold wpList at this ⊢
    simp only [Region.wanted, hyl, hb, beq_self_eq_true, if_true] at this ⊢
    exact this
  · have hb' : t = !b := by revert hb; cases t <;> cases b <;> decide
    have := hn hb' _ (ha.put hd undef)
    unfold wpList
    have hw : (some t == some b) = false := by revert hb; cases t <;> cases b <;> decide
    simp only [Region.wanted, hyl, hw]
    exact this
theorem WL.gy {ops : Array Oper} {Q : Exit → Fr → World → Prop} {f : Fr} {w : World} {rest : List Oper} {d ty : Nat} {pos : String} {aft : Array Edge} {op : Op} {j dj : Nat} {b t : Bool}
  (hj : (ops[j]?).bind (·.dst) = some dj) (ht : look f dj = some (.bool t)) (hd : Nat.blt d n.n = true) (e : t = b)
  (hy : WL P n ops Q (⟨some d, op, ty, pos, aft, none⟩ :: rest) f w) : WL P n ops Q (⟨some d, op, ty, pos, aft, some (j, b)⟩ :: rest) f w :=
 WL.gd hj ht hd (fun _ => hy) (fun h => by rw [e] at h; cases b <;> cases h)
theorem WL.gn {ops : Array Oper} {Q : Exit → Fr → World → Prop} {f : Fr} {w : World} {rest : List Oper} {d ty : Nat} {pos : String} {aft : Array Edge} {op : Op} {j dj : Nat} {b t : Bool}
  (hj : (ops[j]?).bind (·.dst) = some dj) (ht : look f dj = some (.bool t)) (hd : Nat.blt d n.n = true) (e : t = !b)
  (hn : WL P n ops Q rest ((d, undef) :: f) w) : WL P n ops Q (⟨some d, op, ty, pos, aft, some (j, b)⟩ :: rest) f w :=
 WL.gd hj ht hd (fun h => by rw [e] at h; cases b <;> cases h) (fun _ => hn)
end
theorem fbs_toList (l : List UInt8) : (bs l).toList = l := by simp [bs]
theorem fbs_extract (l : List UInt8) (a b : Nat) : (bs l).extract a b = bs ((l.drop a).take (b - a)) := by
 apply ByteArray.ext
 simp [bs, List.extract_eq_take_drop]
theorem beq_dec (l m : List UInt8) : (l == m) = decide (l = m) := by rw [Bool.eq_iff_iff]; simp
theorem i64w {r : Int} (h : -9223372036854775808 ≤ r ∧ r ≤ 9223372036854775807) : IntKind.i64.wrap r = r := by rw [IntKind.wrap_i64]; omega
theorem u8w {r : Int} (h : 0 ≤ r ∧ r ≤ 255) : IntKind.u8.wrap r = r := by rw [IntKind.wrap_u8']; omega
theorem u32w {r : Int} (h : 0 ≤ r ∧ r ≤ 4294967295) : IntKind.u32.wrap r = r := by rw [IntKind.wrap_u32']; omega
theorem u8q {a b : Int} (h0 : 0 ≤ a) (h1 : a ≤ 255) (hb : 1 ≤ b) : IntKind.u8.wrap (a.tdiv b) = a / b := by
 rw [Int.tdiv_eq_ediv_of_nonneg h0]
 exact u8w ⟨Int.ediv_nonneg h0 (by omega : 0 ≤ b), by have := Int.ediv_le_self b h0; omega⟩
section
variable {P : Program} {n : Sh} {f : Fr}
theorem Pure.mv {x : Operand} {v : Value} (hx : evo f x = some v) : Pure P (.move x) f v := fun ρ hρ d ty pos aft g w => by
 simp [execOp, hρ _ _ hx]
theorem WL.m {P : Program} {n : Sh} {ops : Array Oper} {Q : Exit → Fr → World → Prop} {f : Fr} {w : World} {rest : List Oper} {d ty : Nat} {pos : String} {aft : Array Edge} {x : Operand} {v : Value} (h : evo f x = some v) (hd : Nat.blt d n.n = true) (k : WL P n ops Q rest ((d, v) :: f) w) : WL P n ops Q (⟨some d, .move x, ty, pos, aft, none⟩ :: rest) f w := WL.p (.mv h) hd k
theorem Pure.as {x : Operand} {v : Value} (hx : evo f x = some v) : Pure P (.assign x) f v := fun ρ hρ d ty pos aft g w => by
 simp [execOp, hρ _ _ hx]
theorem WL.z {P : Program} {n : Sh} {ops : Array Oper} {Q : Exit → Fr → World → Prop} {f : Fr} {w : World} {d ty : Nat} {pos : String} {aft : Array Edge} {x : Operand} {v : Value} (h : evo f x = some v) (hd : Nat.blt d n.n = true) (k : Q .normal ((d, v) :: f) w) : WL P n ops Q [⟨some d, .assign x, ty, pos, aft, none⟩] f w := WL.p (.as h) hd (WL.nil k)
theorem WL.a {P : Program} {n : Sh} {ops : Array Oper} {Q : Exit → Fr → World → Prop} {f : Fr} {w : World} {rest : List Oper} {d ty : Nat} {pos : String} {aft : Array Edge} {x : Operand} {v : Value} (h : evo f x = some v) (hd : Nat.blt d n.n = true) (k : WL P n ops Q rest ((d, v) :: f) w) : WL P n ops Q (⟨some d, .assign x, ty, pos, aft, none⟩ :: rest) f w := WL.p (.as h) hd k
theorem Pure.pick {c x y : Operand} {t : Bool} {v : Value} (hc : evo f c = some (.bool t)) (h1 : t = true → evo f x = some v) (h2 : t = false → evo f y = some v) : Pure P (.pick c x y) f v := fun ρ hρ d ty pos aft g w => by
 cases t
 ·
  simp [execOp, hρ _ _ hc, asBool, hρ _ _ (h2 rfl)]
 ·
  simp [execOp, hρ _ _ hc, asBool, hρ _ _ (h1 rfl)]
theorem Pure.pkT {c x y : Operand} {t : Bool} {v : Value} (hc : evo f c = some (.bool t)) (e : t = true) (h1 : evo f x = some v) : Pure P (.pick c x y) f v :=
 .pick hc (fun _ => h1) (fun h => by rw [e] at h; cases h)
theorem Pure.pkF {c x y : Operand} {t : Bool} {v : Value} (hc : evo f c = some (.bool t)) (e : t = false) (h1 : evo f y = some v) : Pure P (.pick c x y) f v :=
 .pick hc (fun h => by rw [e] at h; cases h) (fun _ => h1)
section ints
variable {x y : Operand} {k : IntKind} {a b r : Int} {tx ty : TypeId}
theorem Pure.add (hx : evo f x = some (.int k a)) (hy : evo f y = some (.int k b)) (hr : k.wrap (a + b) = r) : Pure P (.binOp .add tx x y ty) f (.int k r) := fun ρ hρ d ty pos aft g w => by
 simp [execOp, hρ _ _ hx, hρ _ _ hy, eqGuard, binOp, Op.intArith, hr]
theorem Pure.sub (hx : evo f x = some (.int k a)) (hy : evo f y = some (.int k b)) (hr : k.wrap (a - b) = r) : Pure P (.binOp .sub tx x y ty) f (.int k r) := fun ρ hρ d ty pos aft g w => by
 simp [execOp, hρ _ _ hx, hρ _ _ hy, eqGuard, binOp, Op.intArith, hr]
theorem Pure.mul (hx : evo f x = some (.int k a)) (hy : evo f y = some (.int k b)) (hr : k.wrap (a * b) = r) : Pure P (.binOp .mul tx x y ty) f (.int k r) := fun ρ hρ d ty pos aft g w => by
 simp [execOp, hρ _ _ hx, hρ _ _ hy, eqGuard, binOp, Op.intArith, hr]
theorem Pure.quo (hx : evo f x = some (.int k a)) (hy : evo f y = some (.int k b)) (h0 : b ≠ 0) (hr : k.wrap (a.tdiv b) = r) : Pure P (.binOp .quo tx x y ty) f (.int k r) := fun ρ hρ d ty pos aft g w => by
 simp [execOp, hρ _ _ hx, hρ _ _ hy, eqGuard, binOp, Op.intDiv, h0, hr]
theorem Pure.rem (hx : evo f x = some (.int k a)) (hy : evo f y = some (.int k b)) (h0 : b ≠ 0) (hr : a.tmod b = r) : Pure P (.binOp .rem tx x y ty) f (.int k r) := fun ρ hρ d ty pos aft g w => by
 simp [execOp, hρ _ _ hx, hρ _ _ hy, eqGuard, binOp, Op.intDiv, h0, hr]
theorem Pure.lss (hx : evo f x = some (.int k a)) (hy : evo f y = some (.int k b)) : Pure P (.binOp .lss tx x y ty) f (.bool (decide (a < b))) := fun ρ hρ d ty pos aft g w => by
 simp [execOp, hρ _ _ hx, hρ _ _ hy, eqGuard, binOp, Op.intCmp]
theorem Pure.leq (hx : evo f x = some (.int k a)) (hy : evo f y = some (.int k b)) : Pure P (.binOp .leq tx x y ty) f (.bool (decide (a ≤ b))) := fun ρ hρ d ty pos aft g w => by
 simp [execOp, hρ _ _ hx, hρ _ _ hy, eqGuard, binOp, Op.intCmp]
theorem Pure.gtr (hx : evo f x = some (.int k a)) (hy : evo f y = some (.int k b)) : Pure P (.binOp .gtr tx x y ty) f (.bool (decide (b < a))) := fun ρ hρ d ty pos aft g w => by
 simp [execOp, hρ _ _ hx, hρ _ _ hy, eqGuard, binOp, Op.intCmp]
theorem Pure.geq (hx : evo f x = some (.int k a)) (hy : evo f y = some (.int k b)) : Pure P (.binOp .geq tx x y ty) f (.bool (decide (b ≤ a))) := fun ρ hρ d ty pos aft g w => by
 simp [execOp, hρ _ _ hx, hρ _ _ hy, eqGuard, binOp, Op.intCmp]
theorem Pure.eql (hx : evo f x = some (.int k a)) (hy : evo f y = some (.int k b)) : Pure P (.binOp .eql tx x y ty) f (.bool (decide (a = b))) := fun ρ hρ d ty pos aft g w => by
 simp [execOp, hρ _ _ hx, hρ _ _ hy, eqGuard, binOp, Op.intCmp]; rfl
theorem Pure.neq (hx : evo f x = some (.int k a)) (hy : evo f y = some (.int k b)) : Pure P (.binOp .neq tx x y ty) f (.bool (!decide (a = b))) := fun ρ hρ d ty pos aft g w => by
 simp [execOp, hρ _ _ hx, hρ _ _ hy, eqGuard, binOp, Op.intCmp]; rfl
theorem Pure.neg (hx : evo f x = some (.int k a)) (hr : k.wrap (-a) = r) : Pure P (.unOp .neg tx x) f (.int k r) := fun ρ hρ d ty pos aft g w => by
 simp [execOp, hρ _ _ hx, Op.unary, Op.intArith, hr]
theorem Pure.not {t : Bool} (hx : evo f x = some (.bool t)) : Pure P (.unOp .not tx x) f (.bool (!t)) := fun ρ hρ d ty pos aft g w => by
 simp [execOp, hρ _ _ hx, Op.unary]
theorem Pure.cvt {k' k0 : IntKind} (hs : P.underlying tx = some (.int k0)) (ht : P.underlying ty = some (.int k')) (hx : evo f x = some (.int k a)) (hr : k'.wrap a = r) : Pure P (.convert tx ty x) f (.int k' r) := fun ρ hρ d ty' pos aft g w => by
 simp [execOp, hρ _ _ hx, convert, run_underlying hs, run_underlying ht, Conv.intToInt, hr]
end ints
section strings
variable {x y : Operand} {l m : List UInt8} {tx ty : TypeId}
theorem Pure.len {at' : TypeId} (hu : P.underlying at' = some .string) (hx : evo f x = some (.string (bs l))) : Pure P (.call ⟨.builtin .len, #[x], #[at']⟩) f (.int .i64 (l.length : Int)) := fun ρ hρ d ty pos aft g w => by
 simp [execOp, resolve, invoke, builtin, Builtin.len_, run_underlying hu, hρ _ _ hx, goInt, bs_size]
theorem Pure.ix {i : Int} (hu : P.underlying tx = some .string) (hx : evo f x = some (.string (bs l))) (hi : evo f y = some (.int .i64 i)) (k : Nat) (e : i = k) (hk : k < l.length) : Pure P (.index tx x y) f (.int .u8 (l[k].toNat : Int)) := fun ρ hρ d ty pos aft g w => by
 subst e
 have h1 : (bs l)[k]? = some l[k] := by
  have : k < (bs l).size := by rw [bs_size]; exact hk
  rw [getElem?_pos (bs l) k this]; rfl
 simp [execOp, Instr.index, hρ _ _ hx, hρ _ _ hi, asIntOf, run_underlying hu, h1]
theorem Pure.cat (hx : evo f x = some (.string (bs l))) (hy : evo f y = some (.string (bs m))) (hlen : l.length + m.length ≤ 9223372036854775807) : Pure P (.binOp .add tx x y ty) f (.string (bs (l ++ m))) := fun ρ hρ d ty pos aft g w => by
 have h : (l.length : Int) + (m.length : Int) ≤ 9223372036854775807 := by omega
 simp [execOp, hρ _ _ hx, hρ _ _ hy, eqGuard, binOp, Op.stringOp, bs_append, bs_size, h]
theorem Pure.eqs (hx : evo f x = some (.string (bs l))) (hy : evo f y = some (.string (bs m))) : Pure P (.binOp .eql tx x y ty) f (.bool (decide (l = m))) := fun ρ hρ d ty pos aft g w => by
 simp [execOp, hρ _ _ hx, hρ _ _ hy, eqGuard, binOp, Op.stringOp, fbs_toList, beq_dec]
theorem Pure.nes (hx : evo f x = some (.string (bs l))) (hy : evo f y = some (.string (bs m))) : Pure P (.binOp .neq tx x y ty) f (.bool (!decide (l = m))) := fun ρ hρ d ty pos aft g w => by
 simp [execOp, hρ _ _ hx, hρ _ _ hy, eqGuard, binOp, Op.stringOp, fbs_toList, beq_dec]
/-- a part of several results -/
theorem Pure.ext {i : Nat} {vs : Array Value} {v : Value} (hx : evo f x = some (.tuple vs)) (hv : vs[i]? = some v) : Pure P (.extract x i) f v := fun ρ hρ d ty pos aft g w => by
 simp [execOp, hρ _ _ hx, Instr.extract, hv]
end strings
/-- a function with a body of its own -/
def HasBody (P : Program) (F : FuncId) : Prop := ∃ fn, P.funcs[F]? = some fn ∧ fn.body ≠ none ∧ fn.name ≠ "runtime.NumGoroutine"
theorem hasBody {F : FuncId} {fn : Func} (hf : P.funcs[F]? = some fn) (hb : (fn.body.isNone || fn.name == "runtime.NumGoroutine") = false) : HasBody P F := by
 simp only [Bool.or_eq_false_iff] at hb
 exact ⟨fn, hf, fun h => by rw [h] at hb; exact absurd hb.1 dD, fun h => by rw [h] at hb; exact absurd hb.2 dD⟩
/-- the values of operands -/
def evs (f : Fr) : List Operand → Option (List Value)
 | [] => some []
 | x :: r => match evo f x, evs f r with
  | some v, some vs => some (v :: vs)
  | _, _ => none
theorem evs_map {ρ : Operand → Value} (hρ : Agr f ρ) : ∀ (xs : List Operand) (vs : List Value), evs f xs = some vs → xs.map ρ = vs
 | [], vs, h => by simp only [evs, Option.some.injEq] at h; subst h; rfl
 | x :: r, vs, h => by
  unfold evs at h
  cases hx : evo f x with
  | none => rw [hx] at h; cases h
  | some v =>
   cases hr : evs f r with
   | none => rw [hx, hr] at h; cases h
   | some us =>
    rw [hx, hr] at h
    simp only [Option.some.injEq] at h
    subst h
    simp [hρ _ _ hx, evs_map hρ r us hr]
theorem run_callOp {F : FuncId} (hb : HasBody P F) {ρ : Operand → Value} (hρ : Agr f ρ) {xs : List Operand} {vs : List Value} (hx : evs f xs = some vs) {ats : Array TypeId} (d : Option Tmp) (ty : TypeId) (pos : String) (aft : Array Edge) (g : Option (Nat × Bool)) (w : World) :
  (execOp ρ ⟨d, .call ⟨.value (.func F), xs.toArray, ats⟩, ty, pos, aft, g⟩).run P w = .ok (.enter F vs.toArray) w := by
 obtain ⟨fn, h1, h2, h3⟩ := hb
 have e := evs_map hρ _ _ hx
 have hfn : ρ (.func F) = .func (.func F) #[] #[] := hρ _ _ rfl
 have hargs : xs.toArray.map ρ = vs.toArray := by simp [e]
 unfold execOp
 simp only [resolve, hargs, hfn]
 simp [Deferred.ofValue, invoke, callFunc, run_program, h1, h2, h3]
/-- a call, by a contract -/
theorem WL.call {ops : Array Oper} {Q : Exit → Fr → World → Prop} {w : World} {rest : List Oper} {d ty : Nat} {pos : String} {aft : Array Edge} {F : FuncId} {xs : List Operand} {ats : Array TypeId} {vs : List Value} {α : Sort _}
  {V : α → Value} {S : α → World → Prop} (hb : HasBody P F) (hx : evs f xs = some vs) (hd : Nat.blt d n.n = true)
  (hc : Calls P F vs.toArray w fun e w' => ∃ t, e = .returned (V t) ∧ S t w') (k : ∀ t w', S t w' → WL P n ops Q rest ((d, V t) :: f) w') :
  WL P n ops Q (⟨some d, .call ⟨.value (.func F), xs.toArray, ats⟩, ty, pos, aft, none⟩ :: rest) f w := by
 intro a ha
 refine wpList_plain rfl fun K hK => ?_
 unfold Oper.wp
 rw [run_callOp hb ha.agr hx, Oper.upon_enter]
 refine hc.mono ?_
 rintro e w' ⟨t, rfl, hS⟩
 exact hK _ _ (k t w' hS _ (ha.put hd _))
/-- a call that panics, by a contract -/
theorem WL.cp {ops : Array Oper} {Q : Exit → Fr → World → Prop} {w : World} {rest : List Oper} {d : Option Tmp} {ty : Nat} {pos : String} {aft : Array Edge} {F : FuncId} {xs : List Operand} {ats : Array TypeId} {vs : List Value}
  {ch : List PanicEntry} {S : World → Prop} (hb : HasBody P F) (hx : evs f xs = some vs)
  (hc : Calls P F vs.toArray w fun e w' => e = .panicked ch ∧ S w') (k : ∀ w', S w' → Q (.panic ch) f w') :
  WL P n ops Q (⟨d, .call ⟨.value (.func F), xs.toArray, ats⟩, ty, pos, aft, none⟩ :: rest) f w := by
 intro a ha
 refine wpList_plain rfl fun K hK => ?_
 unfold Oper.wp
 rw [run_callOp hb ha.agr hx, Oper.upon_enter]
 refine hc.mono ?_
 rintro e w' ⟨rfl, hS⟩
 exact ⟨f, ha, k w' hS⟩
/-- a panic of the text's own -/
theorem WL.pn {ops : Array Oper} {Q : Exit → Fr → World → Prop} {w : World} {rest : List Oper} {d : Option Tmp} {ty : Nat} {pos : String} {aft : Array Edge} {op : Op} {v : Value}
  (h : ∀ ρ, Agr f ρ → (execOp ρ ⟨d, op, ty, pos, aft, none⟩).run P w = .halt (.panic v) w) (k : Q (.panic [{ v, recovered := false }]) f w) :
  WL P n ops Q (⟨d, op, ty, pos, aft, none⟩ :: rest) f w := by
 intro a ha
 refine wpList_plain rfl fun K hK => ?_
 unfold Oper.wp
 rw [h _ ha.agr, Oper.upon_panic]
 exact ⟨f, ha, k⟩
/-- a call, by a contract that tells one value -/
theorem WL.c1 {ops : Array Oper} {Q : Exit → Fr → World → Prop} {w : World} {rest : List Oper} {d ty : Nat} {pos : String} {aft : Array Edge} {F : FuncId} {xs : List Operand} {ats : Array TypeId} {vs : List Value}
  {V : Value} {S : World → Prop} (hb : HasBody P F) (hx : evs f xs = some vs) (hd : Nat.blt d n.n = true)
  (hc : Calls P F vs.toArray w fun e w' => e = .returned V ∧ S w') (k : ∀ w', S w' → WL P n ops Q rest ((d, V) :: f) w') :
  WL P n ops Q (⟨some d, .call ⟨.value (.func F), xs.toArray, ats⟩, ty, pos, aft, none⟩ :: rest) f w :=
 WL.call (α := Unit) (V := fun _ => V) (S := fun _ => S) hb hx hd (hc.mono fun _ _ h => ⟨(), h⟩) (fun _ => k)
/-- a block of cells that may be written -/
def Blk (w : World) (b : Nat) (cs : Array Value) (t : TypeId) : Prop := w.heap[b]? = some (.cells cs t (0, 0))
/-- w1 is w but for one block, which may be new -/
structure Upd (b : Nat) (w w1 : World) : Prop where
 os : w1.os = w.os
 tape : w1.tape = w.tape
 output : w1.output = w.output
 size : w.heap.size ≤ w1.heap.size
 other : ∀ k, k ≠ b → w1.heap[k]? = w.heap[k]?
theorem Blk.lt {w : World} {b : Nat} {cs : Array Value} {t : TypeId} (h : Blk w b cs t) : b < w.heap.size := (Array.getElem?_eq_some_iff.1 h).1
theorem Upd.below {B b : Nat} {w0 w w1 : World} (hb : Below B w0 w) (hB : B ≤ b) (h : Upd b w w1) : Below B w0 w1 :=
 ⟨h.os.trans hb.os, h.tape.trans hb.tape, h.output.trans hb.output, Nat.le_trans hb.size h.size, fun k hk => (h.other k oO).trans (hb.block k hk)⟩
theorem Blk.upd {w w1 : World} {b c : Nat} {cs : Array Value} {t : TypeId} (h : Blk w c cs t) (hu : Upd b w w1) (hne : c ≠ b) : Blk w1 c cs t := (hu.other c hne).trans h
theorem Blk.up {w w1 : World} {b c : Nat} {cs : Array Value} {t : TypeId} (h : Blk w c cs t) (hu : Upd b w w1) (hne : c ≠ b := by ((try simp only) <;> omega)) : Blk w1 c cs t := h.upd hu hne
theorem Blk.below {w w1 : World} {B c : Nat} {cs : Array Value} {t : TypeId} (h : Blk w c cs t) (hb : Below B w w1) (hc : c < B) : Blk w1 c cs t := (hb.block c hc).trans h
theorem Upd.alloc (w : World) (o : Obj) : Upd w.heap.size w (w.alloc o) := ⟨rfl, rfl, rfl, by simp, fun k hk => by
 show (w.heap.push o)[k]? = _
 rw [Array.getElem?_push, if_neg hk]⟩
theorem Upd.setRow (w : World) (b : Nat) (cs : Array Value) : Upd b w (w.setRow b cs) := ⟨rfl, rfl, rfl, by simp [World.setRow], fun k hk => by
 simp only [World.setRow, Array.getElem?_modify]
 rw [if_neg oO]⟩
theorem Upd.setCell (w : World) (b o : Nat) (v : Value) : Upd b w (w.setCell ⟨b, o, none⟩ v) := ⟨rfl, rfl, rfl, by simp [World.setCell], fun k hk => by
 simp only [World.setCell, Array.getElem?_modify]
 rw [if_neg oO]⟩
theorem Blk.alloc (w : World) (cs : Array Value) (t : TypeId) : Blk (w.alloc (.cells cs t)) w.heap.size cs t := by
 show (w.heap.push _)[w.heap.size]? = _
 simp
theorem Blk.setCell {w : World} {b : Nat} {cs : Array Value} {t : TypeId} (h : Blk w b cs t) (o : Nat) (v : Value) : Blk (w.setCell ⟨b, o, none⟩ v) b (cs.setIfInBounds o v) t := by
 unfold Blk at *
 simp [World.setCell, Array.getElem?_modify, h]
theorem Blk.cell {w : World} {b : Nat} {cs : Array Value} {t : TypeId} (h : Blk w b cs t) (o : Nat) : w.cell? ⟨b, o, none⟩ = cs[o]? := cell_of_row w b o cs t (0, 0) h
theorem Blk.free {w : World} {b : Nat} {cs : Array Value} {t : TypeId} (h : Blk w b cs t) (o : Nat) : w.frozen? ⟨b, o, none⟩ = false := by
 unfold Blk at h
 simp [World.frozen?, h]
section mem
variable {ops : Array Oper} {Q : Exit → Fr → World → Prop} {w : World} {rest : List Oper} {d ty : Nat} {pos : String} {aft : Array Edge}
/-- a new variable -/
theorem WL.alloc {t : TypeId} {z : Value} (hz : ∀ w, (zeroValue t).run P w = .ok z w) (hd : Nat.blt d n.n = true)
  (k : ∀ b w1, b = w.heap.size → Blk w1 b z.cells t → Upd b w w1 → w1.heap.size = b + 1 → WL P n ops Q rest ((d, .pointer (some ⟨b, 0, none⟩)) :: f) w1) :
  WL P n ops Q (⟨some d, .alloc t, ty, pos, aft, none⟩ :: rest) f w :=
 WL.run hd (w' := w.alloc (.cells z.cells t)) (v := .pointer (some ⟨w.heap.size, 0, none⟩)) (fun ρ hρ => by
  simp [execOp, Instr.alloc, hz, newVar, newRow]) (k _ _ rfl (Blk.alloc _ _ _) (Upd.alloc _ _) (by simp))
/-- a new variable with a value -/
theorem WL.box {t : TypeId} {x : Operand} {v : Value} (hx : evo f x = some v) (hd : Nat.blt d n.n = true)
  (k : ∀ b w1, b = w.heap.size → Blk w1 b v.cells t → Upd b w w1 → w1.heap.size = b + 1 → WL P n ops Q rest ((d, .pointer (some ⟨b, 0, none⟩)) :: f) w1) :
  WL P n ops Q (⟨some d, .box t x, ty, pos, aft, none⟩ :: rest) f w :=
 WL.run hd (w' := w.alloc (.cells v.cells t)) (v := .pointer (some ⟨w.heap.size, 0, none⟩)) (fun ρ hρ => by
  simp [execOp, Instr.box, hρ _ _ hx, newVar, newRow]) (k _ _ rfl (Blk.alloc _ _ _) (Upd.alloc _ _) (by simp))
/-- a variable of several cells is stored -/
theorem WL.stA {t tb : TypeId} {x y : Operand} {b : Nat} {old cs : Array Value} (hx : evo f x = some (.pointer (some ⟨b, 0, none⟩))) (hy : evo f y = some (.agg cs)) (hb : Blk w b old tb)
  (hi : (P.info? t).map (·.size) = some cs.size) (ho : old.size = cs.size) (h1 : cs.all (·.oneCell') = true)
  (k : ∀ w1, Blk w1 b cs tb → Upd b w w1 → w1.heap.size = w.heap.size → WL P n ops Q rest f w1) :
  WL P n ops Q (⟨none, .store t x y, ty, pos, aft, none⟩ :: rest) f w :=
 WL.act (w' := w.setRow b cs) (fun ρ hρ => by
  unfold execOp
  simp only [hρ _ _ hx, hρ _ _ hy, Instr.storeAt, Instr.sureAddr, Sem.run_bind, Sem.run_pure, Result.andThen_ok, run_storeVar_row w b tb t old cs hb hi ho h1])
  (k _ (setRow_heap w b old cs tb (0, 0) hb) (Upd.setRow _ _ _) (by simp [World.setRow]))
/-- a variable of several cells is read -/
theorem WL.ldA {t tb : TypeId} {x : Operand} {b : Nat} {cs : Array Value} {dd : TypeDesc} (hx : evo f x = some (.pointer (some ⟨b, 0, none⟩))) (hb : Blk w b cs tb)
  (hu : P.underlying t = some dd) (hdd : (match dd with | .struct _ | .array _ _ => true | _ => false) = true) (hi : (P.info? t).map (·.size) = some cs.size) (hd : Nat.blt d n.n = true)
  (k : WL P n ops Q rest ((d, .agg cs) :: f) w) : WL P n ops Q (⟨some d, .load t x, ty, pos, aft, none⟩ :: rest) f w :=
 WL.run hd (fun ρ hρ => by
  unfold execOp
  simp only [hρ _ _ hx, Instr.loadAt, Instr.sureAddr, Sem.run_bind, Sem.run_pure, Result.andThen_ok, run_loadVar_row w b tb t cs (0, 0) dd hb hu hdd hi]) k
/-- a struct's value out of its parts -/
theorem Pure.build {t : TypeId} {ps : List (Nat × Operand)} {vs : List Value} {cs : Array Value} (hx : evs f (ps.map (·.2)) = some vs) (hb : P.built t ((ps.map (·.1)).zip vs) = some cs) : Pure P (.build t ps.toArray) f (.agg cs) := fun ρ hρ d ty pos aft g w => by
 have e := evs_map hρ _ _ hx
 have e2 : (ps.toArray.map fun (i, x) => (i, ρ x)).toList = (ps.map (·.1)).zip vs := by
  rw [← e]
  simp only [List.map_map, Array.toList_map]
  clear hx hb e
  induction ps with
  | nil => rfl
  | cons p r ih => simpa using ih
 unfold execOp
 simp only [Sem.run_bind, run_build w t _ cs (by rw [e2]; exact hb), Result.andThen_ok, Sem.run_pure]
end mem
end
section
variable {P : Program} {n : Sh} {f : Fr}
/-- an operation that only reads: its value in this world -/
def Rd (P : Program) (op : Op) (f : Fr) (w : World) (v : Value) : Prop := ∀ ρ, Agr f ρ → ∀ d ty pos aft g, (execOp ρ ⟨d, op, ty, pos, aft, g⟩).run P w = .ok (.value v) w
theorem Pure.rd {op : Op} {v : Value} {w : World} (h : Pure P op f v) : Rd P op f w v := fun ρ hρ d ty pos aft g => h ρ hρ d ty pos aft g w
theorem Rd.ld {t tb : TypeId} {x : Operand} {b o : Nat} {cs : Array Value} {v : Value} {w : World} (ha : (isAgg t).run P w = .ok false w) (hx : evo f x = some (.pointer (some ⟨b, o, none⟩))) (hb : Blk w b cs tb) (hv : cs[o]? = some v) :
  Rd P (.load t x) f w v := fun ρ hρ d ty pos aft g => by
 have hc := (hb.cell o).trans hv
 simp [execOp, hρ _ _ hx, Instr.loadAt, Instr.sureAddr, loadVar, ha, hc]
theorem Rd.ldc {t : TypeId} {x : Operand} {p : Addr} {v : Value} {w : World} (ha : (isAgg t).run P w = .ok false w) (hx : evo f x = some (.pointer (some p))) (hv : w.cell? p = some v) :
  Rd P (.load t x) f w v := fun ρ hρ d ty pos aft g => by
 simp [execOp, hρ _ _ hx, Instr.loadAt, Instr.sureAddr, loadVar, ha, hv]
theorem Rd.ldA {t tb : TypeId} {x : Operand} {b : Nat} {cs : Array Value} {dd : TypeDesc} {w : World} (hx : evo f x = some (.pointer (some ⟨b, 0, none⟩))) (hb : Blk w b cs tb)
  (hu : P.underlying t = some dd) (hdd : (match dd with | .struct _ | .array _ _ => true | _ => false) = true) (hi : (P.info? t).map (·.size) = some cs.size) : Rd P (.load t x) f w (.agg cs) := fun ρ hρ d ty pos aft g => by
 unfold execOp
 simp only [hρ _ _ hx, Instr.loadAt, Instr.sureAddr, Sem.run_bind, Sem.run_pure, Result.andThen_ok, run_loadVar_row w b tb t cs (0, 0) dd hb hu hdd hi]
/-- the length of a slice -/
theorem Pure.lenS {at' e : TypeId} {x : Operand} {p : Option Addr} {l c : Nat} (hu : P.underlying at' = some (.slice e)) (hx : evo f x = some (.slice p l c)) : Pure P (.call ⟨.builtin .len, #[x], #[at']⟩) f (.int .i64 (l : Int)) := fun ρ hρ d ty pos aft g w => by
 simp [execOp, resolve, invoke, builtin, Builtin.len_, run_underlying hu, hρ _ _ hx, goInt]
/-- the address of a slice's element -/
theorem Pure.ixa {tx e : TypeId} {x y : Operand} {p : Addr} {l c sz : Nat} {i : Int} {k : IntKind} (hu : P.underlying tx = some (.slice e)) (hs : ∀ w, (sizeOf e).run P w = .ok sz w) (hx : evo f x = some (.slice (some p) l c))
  (hi : evo f y = some (.int k i)) (j : Nat) (e' : i = j) (hj : j < l) : Pure P (.indexAddr tx x y) f (.pointer (some (p.add (j * sz)))) := fun ρ hρ d ty pos aft g w => by
 subst e'
 simp [execOp, Instr.indexAt, hρ _ _ hx, hρ _ _ hi, asIntOf, run_underlying hu, hs, hj]
/-- the address of a field -/
theorem Pure.fa {s : TypeId} {x : Operand} {p : Addr} {i : Nat} {fs : Array Field} {fd : Field} {sz : Nat} (hu : P.underlying s = some (.struct fs)) (hf : fs[i]? = some fd) (hs : ∀ w, (sizeOf fd.type).run P w = .ok sz w) (h0 : sz ≠ 0)
  (hx : evo f x = some (.pointer (some p))) : Pure P (.fieldAddr s x i) f (.pointer (some (p.add fd.offset))) := fun ρ hρ d ty pos aft g w => by
 simp [execOp, Instr.fieldAt, hρ _ _ hx, run_underlying hu, hf, Instr.sureAddr, fieldPlace, hs, h0]
/-- a check against nil -/
theorem Pure.nck {x : Operand} {p : Addr} (hx : evo f x = some (.pointer (some p))) : Pure P (.nilCheck x) f (.pointer (some p)) := fun ρ hρ d ty pos aft g w => by
 simp [execOp, hρ _ _ hx]
/-- a field of a struct's value -/
theorem Pure.fld {s : TypeId} {x : Operand} {i : Nat} {fs : Array Field} {fd : Field} {cs : Array Value} {v : Value} (hu : P.underlying s = some (.struct fs)) (hf : fs[i]? = some fd) (ha : ∀ w, (isAgg fd.type).run P w = .ok false w)
  (hx : evo f x = some (.agg cs)) (hv : cs[fd.offset]? = some v) : Pure P (.field s x i) f v := fun ρ hρ d ty pos aft g w => by
 simp [execOp, Instr.field, hρ _ _ hx, run_underlying hu, hf, asAgg, part, ha, hv]
theorem WL.r {ops : Array Oper} {Q : Exit → Fr → World → Prop} {w : World} {rest : List Oper} {d ty : Nat} {pos : String} {aft : Array Edge} {op : Op} {v : Value}
  (h : Rd P op f w v) (hd : Nat.blt d n.n = true) (k : WL P n ops Q rest ((d, v) :: f) w) : WL P n ops Q (⟨some d, op, ty, pos, aft, none⟩ :: rest) f w :=
 WL.run hd (fun ρ hρ => h ρ hρ _ _ _ _ _) k
/-- one cell is stored -/
theorem WL.st {ops : Array Oper} {Q : Exit → Fr → World → Prop} {w : World} {rest : List Oper} {ty : Nat} {pos : String} {aft : Array Edge} {t tb : TypeId} {x y : Operand} {b o : Nat} {cs : Array Value} {v : Value}
  (hs : ∀ w, (sizeOf t).run P w = .ok 1 w) (hx : evo f x = some (.pointer (some ⟨b, o, none⟩))) (hy : evo f y = some v) (h1 : v.oneCell' = true) (hb : Blk w b cs tb) (ho : o < cs.size)
  (k : ∀ w1, Blk w1 b (cs.setIfInBounds o v) tb → Upd b w w1 → w1.heap.size = w.heap.size → WL P n ops Q rest f w1) : WL P n ops Q (⟨none, .store t x y, ty, pos, aft, none⟩ :: rest) f w :=
 WL.act (w' := w.setCell ⟨b, o, none⟩ v) (fun ρ hρ => by
  have hc : w.cell? ⟨b, o, none⟩ = some cs[o] := by rw [hb.cell o]; simp [ho]
  have hf := hb.free o
  have hst := run_store P w ⟨b, o, none⟩ v .plain h1
  have hcs : v.cells = #[v] := by cases v <;> first | rfl | cases h1
  have h0 : (⟨b, o, none⟩ : Addr).add 0 = ⟨b, o, none⟩ := by simp [Addr.add]
  simp [execOp, hρ _ _ hx, hρ _ _ hy, Instr.storeAt, Instr.sureAddr, storeVar, hcs, hs, storeCells, h0, hst, hc, hf])
  (k _ (hb.setCell o v) (Upd.setCell w b o v) (by simp [World.setCell]))
/-- a guard that was passed over itself -/
theorem yielded_undef {a : Act} {ops : Array Oper} {j dj : Nat} (ha : Rep n f a) (hj : (ops[j]?).bind (·.dst) = some dj) (ht : look f dj = some undef) : yielded ops a.tmps j = none := by
 have hval := ha.2.2 _ _ ht
 unfold yielded
 cases ho : ops[j]? with
 | none => rw [ho] at hj; cases hj
 | some o =>
  rw [ho] at hj
  simp only [Option.bind_some] at hj
  cases h : a.tmps[dj]? with
  | none => simp [hj, h]
  | some v =>
   rw [Array.getD_eq_getD_getElem?, h] at hval
   simp only [Option.getD_some] at hval
   subst hval
   simp [hj, h, undef]
theorem WL.gu {ops : Array Oper} {Q : Exit → Fr → World → Prop} {w : World} {rest : List Oper} {d ty : Nat} {pos : String} {aft : Array Edge} {op : Op} {j dj : Nat} {b : Bool}
  (hj : (ops[j]?).bind (·.dst) = some dj) (ht : look f dj = some undef) (hd : Nat.blt d n.n = true)
  (hn : WL P n ops Q rest ((d, undef) :: f) w) : WL P n ops Q (⟨some d, op, ty, pos, aft, some (j, b)⟩ :: rest) f w := by
 intro a ha
 have hyl := yielded_undef ha hj ht
 have := hn _ (ha.put hd undef)
 unfold wpList
 simp only [Region.wanted, hyl]
 exact this
/-- more is known -/
def Le (g f : Fr) : Prop := ∀ i v, look g i = some v → look f i = some v
theorem Le.refl (f : Fr) : Le f f := fun _ _ h => h
theorem Le.cons {g f : Fr} {d : Nat} {v : Value} (hd : look g d = none) (h : Le g f) : Le g ((d, v) :: f) := by
 intro i u hu
 unfold look
 cases hb : Nat.beq d i with
 | true =>
  obtain rfl : d = i := Nat.eq_of_beq_eq_true hb
  rw [hd] at hu; cases hu
 | false => exact h i u hu
theorem Le.put {g f : Fr} (h : Le g f) {d : Nat} {v : Value} (hd : look f d = some v) : Le ((d, v) :: g) f := by
 intro i u hu
 unfold look at hu
 cases hb : Nat.beq d i with
 | true =>
  rw [hb] at hu
  obtain rfl : d = i := Nat.eq_of_beq_eq_true hb
  rw [hd]; exact hu
 | false => rw [hb] at hu; exact h i u hu
/-- a cut behind a test: the test's slot holds this -/
theorem W.cutB {x y : Code} {Q : Exit → Fr → World → Prop} {w : World} (c : Nat) (T : Bool)
  (h1 : W P n x (nx (fun f' w' => (look f' c = some (.bool T) ∧ Le f f') ∧ w' = w) Q) f w) (h2 : W P n y Q ((c, .bool T) :: f) w) : W P n (.seq x y) Q f w := by
 refine W.seq (h1.mono ?_)
 intro e f' w' h
 cases e with
 | normal =>
  obtain ⟨⟨hc, hle⟩, rfl⟩ := h
  exact fun a ha => h2 a ⟨ha.1, ha.2.1, fun i v hv => ha.2.2 i v (hle.put hc i v hv)⟩
 | _ => exact h
theorem ndT {p : Prop} [Decidable p] (h : (!decide p) = true) : ¬ p := by simpa using h
theorem ndF {p : Prop} [Decidable p] (h : (!decide p) = false) : p := by simpa using h
theorem nT {t : Bool} (h : (!t) = true) : t = false := by simpa using h
theorem nF {t : Bool} (h : (!t) = false) : t = true := by simpa using h
theorem lk_b {f : Fr} {i : Nat} {s t : Bool} (h : look f i = some (.bool s)) (e : s = t) : look f i = some (.bool t) := by rw [h, e]
theorem leF {f g : Fr} {c : Nat} {s t : Bool} (h : look g c = some (.bool s)) (e : s = t := by first | (simp; omega) | (exfalso; simp_all; omega) | (exfalso; omega)) (k : Le f g := by repeat (first | exact Le.refl _ | refine Le.cons rfl ?_)) : look g c = some (.bool t) ∧ Le f g := ⟨lk_b h e, k⟩
theorem leE {f g : Fr} {c : Nat} {t : Bool} (h : look g c = some (.bool t)) (k : Le f g := by repeat (first | exact Le.refl _ | refine Le.cons rfl ?_)) : look g c = some (.bool t) ∧ Le f g := ⟨h, k⟩
theorem lk_i {f : Fr} {i : Nat} {k : IntKind} {s t : Int} (h : look f i = some (.int k s)) (e : s = t) : look f i = some (.int k t) := by rw [h, e]
theorem lk_s {f : Fr} {i : Nat} {s t : List UInt8} (h : look f i = some (.string (bs s))) (e : s = t) : look f i = some (.string (bs t)) := by rw [h, e]
/-- w1 is w after some draws -/
def Drew (w w1 : World) : Prop := ∃ m, w1 = w.drewN m
theorem Drew.refl (w : World) : Drew w w := ⟨0, rfl⟩
theorem Drew.trans {a b c : World} (h : Drew a b) (k : Drew b c) : Drew a c := by
 obtain ⟨m, rfl⟩ := h; obtain ⟨j, rfl⟩ := k; exact ⟨m + j, by rw [World.drewN_drewN]⟩
theorem Drew.below {B : Nat} {w0 w w1 : World} (h : Below B w0 w) (d : Drew w w1) : Below B w0 w1 := by
 obtain ⟨m, rfl⟩ := d; exact ⟨h.os, h.tape, h.output, h.size, h.block⟩
theorem Drew.size {w w1 : World} (d : Drew w w1) : w1.heap.size = w.heap.size := by obtain ⟨m, rfl⟩ := d; rfl
theorem Blk.drew {w w1 : World} {b : Nat} {cs : Array Value} {t : TypeId} (h : Blk w b cs t) (d : Drew w w1) : Blk w1 b cs t := by obtain ⟨m, rfl⟩ := d; exact h
/-- the first N operations only read; what stands behind comes in the text's order -/
def WS (P : Program) (n : Sh) (ops : Array Oper) (Q : Exit → Fr → World → Prop) (tail : List Oper) (w : World) (l : List Oper) (f : Fr) : Prop :=
 ∀ a, Rep n f a → wpStill P ops w (fun a' => wpList P ops (lift n Q) tail a' w) l a
theorem W.regT {Q : Exit → Fr → World → Prop} {w : World} {id : Nat} {l : List Oper} (N : Nat) (hm : P.follows .mixedOrders = true) (hB : Region.lexTailB .any l.toArray N = true)
  (h : ∀ w1, Drew w w1 → WS P n l.toArray Q (l.drop N) w1 (l.take N) f) : W P n (.region id l.toArray true) Q f w :=
 fun a ha => wp_region_still_tail N hm hB (h _ ⟨1, rfl⟩ a ha)
section
variable {ops : Array Oper} {Q : Exit → Fr → World → Prop} {w : World} {tail rest : List Oper} {d ty : Nat} {pos : String} {aft : Array Edge} {op : Op} {v : Value}
theorem WS.nil (h : WL P n ops Q tail f w) : WS P n ops Q tail w [] f := fun a ha => wpStill_nil (h a ha)
theorem WS.r (h : Rd P op f w v) (hd : Nat.blt d n.n = true) (k : WS P n ops Q tail w rest ((d, v) :: f)) : WS P n ops Q tail w (⟨some d, op, ty, pos, aft, none⟩ :: rest) f := by
 intro a ha
 unfold wpStill
 rw [if_pos (by simp [Region.wanted])]
 unfold Oper.still
 rw [h _ ha.agr]
 exact ⟨rfl, k _ (ha.put hd v)⟩
theorem WS.p (h : Pure P op f v) (hd : Nat.blt d n.n = true) (k : WS P n ops Q tail w rest ((d, v) :: f)) : WS P n ops Q tail w (⟨some d, op, ty, pos, aft, none⟩ :: rest) f := WS.r h.rd hd k
end
/-- .. in a region that draws its order -/
theorem W.cutBQ {x y : Code} {Q : Exit → Fr → World → Prop} {w : World} (c : Nat) (T : Bool)
  (h1 : W P n x (nx (fun f' w' => (look f' c = some (.bool T) ∧ Le f f') ∧ Drew w w') Q) f w) (h2 : ∀ w1, Drew w w1 → W P n y Q ((c, .bool T) :: f) w1) : W P n (.seq x y) Q f w := by
 refine W.seq (h1.mono ?_)
 intro e f' w' h
 cases e with
 | normal =>
  obtain ⟨⟨hc, hle⟩, hdr⟩ := h
  exact fun a ha => h2 _ hdr a ⟨ha.1, ha.2.1, fun i v hv => ha.2.2 i v (hle.put hc i v hv)⟩
 | _ => exact h
def WQ (P : Program) (n : Sh) (ops : Array Oper) (Q : Exit → Fr → World → Prop) (w : World) (l : List Oper) (f : Fr) : Prop :=
 ∀ a, Rep n f a → wpQuiet P ops (fun w' => ∃ m, w' = w.drewN m) (fun a' => ∀ w', (∃ m, w' = w.drewN m) → lift n Q .normal a' w') l a
theorem W.regQ {Q : Exit → Fr → World → Prop} {w : World} {id : Nat} {l : List Oper} (hm : P.follows .mixedOrders = true) (hB : Region.lexB .any l.toArray = true) (h : WQ P n l.toArray Q w l f) : W P n (.region id l.toArray true) Q f w :=
 fun a ha => wp_region_quiet_lit hm hB (h a ha)
section
variable {ops : Array Oper} {Q : Exit → Fr → World → Prop} {w : World} {rest : List Oper} {d ty : Nat} {pos : String} {aft : Array Edge} {op : Op} {v : Value}
theorem WQ.nil (h : ∀ w1, Drew w w1 → Q .normal f w1) : WQ P n ops Q w [] f := fun _ ha => wpQuiet_nil fun w' e => ⟨f, ha, h w' e⟩
theorem WQ.r (h : ∀ m, Rd P op f (w.drewN m) v) (hd : Nat.blt d n.n = true) (k : WQ P n ops Q w rest ((d, v) :: f)) : WQ P n ops Q w (⟨some d, op, ty, pos, aft, none⟩ :: rest) f := by
 intro a ha
 unfold wpQuiet
 rw [if_pos (by simp [Region.wanted])]
 refine ⟨v, ?_, k _ (ha.put hd v)⟩
 rintro w' ⟨m, rfl⟩
 unfold Oper.quietAt
 rw [h m _ ha.agr]
 exact ⟨rfl, rfl⟩
theorem WQ.p (h : Pure P op f v) (hd : Nat.blt d n.n = true) (k : WQ P n ops Q w rest ((d, v) :: f)) : WQ P n ops Q w (⟨some d, op, ty, pos, aft, none⟩ :: rest) f := WQ.r (fun _ => h.rd) hd k
theorem WQ.gd {j dj : Nat} {b t : Bool} (hj : (ops[j]?).bind (·.dst) = some dj) (ht : look f dj = some (.bool t)) (hd : Nat.blt d n.n = true)
    (hy : t = b → WQ P n ops Q w (⟨some d, op, ty, pos, aft, none⟩ :: rest) f) (hn : t = !b → WQ P n ops Q w rest ((d, undef) :: f)) :
    WQ P n ops Q w (⟨some d, op, ty, pos, aft, some (j, b)⟩ :: rest) f := by
  intro a ha
  have hval := ha.2.2 _ _ ht
  have hyl : yielded ops a.tmps j = some t := by
    unfold yielded
    cases ho : ops[j]? with
    | none => rw [ho] at hj; cases hj
    | some o =>
      rw [ho] at hj
      simp only [Option.bind_some] at hj
      have h1 : a.tmps[dj]? = some (.bool t) := by
        cases h : a.tmps[dj]? with
        | none => rw [Array.getD_eq_getD_getElem?, h] at hval; cases hval
        | some v => rw [Array.getD_eq_getD_getElem?, h] at hval; exact congrArg some hval
      simp [hj, h1]
  by_cases hb : t = b
  · have := hy hb a ha
    unfold wpQuiet at this ⊢
    simp only [Region.wanted, hyl, hb, beq_self_eq_true, if_true] at this ⊢
    exact this
  · have hb' : t = !b := by revert hb; cases t <;> cases b <;> decide
    have := hn hb' _ (ha.put hd undef)
    unfold wpQuiet
    have hw : (some t == some b) = false := by revert hb; cases t <;> cases b <;> decide
    simp only [Region.wanted, hyl, hw]
    exact this
theorem WQ.gy {j dj : Nat} {b t : Bool} (hj : (ops[j]?).bind (·.dst) = some dj) (ht : look f dj = some (.bool t)) (hd : Nat.blt d n.n = true) (e : t = b)
  (hy : WQ P n ops Q w (⟨some d, op, ty, pos, aft, none⟩ :: rest) f) : WQ P n ops Q w (⟨some d, op, ty, pos, aft, some (j, b)⟩ :: rest) f :=
 WQ.gd hj ht hd (fun _ => hy) (fun h => by rw [e] at h; cases b <;> cases h)
theorem WQ.gn {j dj : Nat} {b t : Bool} (hj : (ops[j]?).bind (·.dst) = some dj) (ht : look f dj = some (.bool t)) (hd : Nat.blt d n.n = true) (e : t = !b)
  (hn : WQ P n ops Q w rest ((d, undef) :: f)) : WQ P n ops Q w (⟨some d, op, ty, pos, aft, some (j, b)⟩ :: rest) f :=
 WQ.gd hj ht hd (fun h => by rw [e] at h; cases b <;> cases h) (fun _ => hn)
theorem WQ.gu {j dj : Nat} {b : Bool} (hj : (ops[j]?).bind (·.dst) = some dj) (ht : look f dj = some undef) (hd : Nat.blt d n.n = true)
  (hn : WQ P n ops Q w rest ((d, undef) :: f)) : WQ P n ops Q w (⟨some d, op, ty, pos, aft, some (j, b)⟩ :: rest) f := by
 intro a ha
 have hyl := yielded_undef ha hj ht
 have := hn _ (ha.put hd undef)
 unfold wpQuiet
 simp only [Region.wanted, hyl]
 exact this
/-- a call that only reads -/
theorem WQ.c1 {F : FuncId} {xs : List Operand} {ats : Array TypeId} {vs : List Value} (hb : HasBody P F) (hx : evs f xs = some vs) (hd : Nat.blt d n.n = true)
  (hc : ∀ m, Calls P F vs.toArray (w.drewN m) fun e w' => e = .returned v ∧ ∃ k, w' = w.drewN k) (k : WQ P n ops Q w rest ((d, v) :: f)) :
  WQ P n ops Q w (⟨some d, .call ⟨.value (.func F), xs.toArray, ats⟩, ty, pos, aft, none⟩ :: rest) f := by
 intro a ha
 unfold wpQuiet
 rw [if_pos (by simp [Region.wanted])]
 refine ⟨v, ?_, k _ (ha.put hd v)⟩
 rintro w' ⟨m, rfl⟩
 unfold Oper.quietAt
 rw [run_callOp hb ha.agr hx]
 exact ⟨rfl, hc m⟩
end
end
/-- a test whose outcome is known otherwise -/
theorem Pure.bis {P : Program} {op : Op} {f : Fr} {s : Bool} (t : Bool) (h : Pure P op f (.bool s)) (e : s = t) : Pure P op f (.bool t) := e ▸ h
/-- a number spelled otherwise -/
theorem Pure.iis {P : Program} {op : Op} {f : Fr} {k : IntKind} {s : Int} (t : Int) (h : Pure P op f (.int k s)) (e : s = t) : Pure P op f (.int k t) := e ▸ h
/-- a string spelled otherwise -/
theorem Pure.sis {P : Program} {op : Op} {f : Fr} {s : List UInt8} (t : List UInt8) (h : Pure P op f (.string (bs s))) (e : s = t) : Pure P op f (.string (bs t)) := e ▸ h
/-- all of one cell -/
def ones : List Value → Bool
 | [] => true
 | v :: r => v.oneCell' && ones r
theorem ones_mem : ∀ {l : List Value}, ones l = true → ∀ v ∈ l, v.oneCell' = true
 | [], _, v, hv => by cases hv
 | u :: r, h, v, hv => by
  simp only [ones, Bool.and_eq_true] at h
  rcases List.mem_cons.1 hv with rfl | hv
  ·
   exact h.1
  ·
   exact ones_mem h.2 v hv
/-- parts put into a struct's cells, a cell each -/
def put1 : List Value → List (Nat × Value) → List Value
 | z, [] => z
 | z, (i, v) :: r => put1 (z.set i v) r
theorem pR {p : Prop} (h : p := by simp only [put1, List.map, List.zip, List.zipWith, List.set, List.replicate] <;> rfl) : p := h
theorem pS {p : Prop} (h : p := by simp only [put1, List.map, List.zip, List.zipWith, List.set] <;> rfl) : p := h
theorem pZ {p : Prop} (h : p := by simp only [put1, List.map, List.zip, List.zipWith] <;> rfl) : p := h
/-- the i-th field is the i-th cell, for the first n -/
def idPlaces : Nat → Nat → List (Nat × Nat) → Bool
 | _, 0, l => l.isEmpty
 | k, n + 1, p :: l => Nat.beq p.1 k && Nat.beq p.2 1 && idPlaces (k + 1) n l
 | _, _ + 1, [] => false
theorem idPlaces_at : ∀ (n k : Nat) (l : List (Nat × Nat)), idPlaces k n l = true → ∀ i, i < n → l[i]? = some (k + i, 1)
 | 0, _, _, _, _, hi => by omega
 | n + 1, k, [], h, _, _ => by cases h
 | n + 1, k, p :: l, h, i, hi => by
  simp only [idPlaces, Bool.and_eq_true] at h
  obtain ⟨⟨h1, h2⟩, h3⟩ := h
  cases i with
  | zero =>
   have e1 := Nat.eq_of_beq_eq_true h1
   have e2 := Nat.eq_of_beq_eq_true h2
   simp; exact Prod.ext e1 e2
  | succ i =>
   have := idPlaces_at n (k + 1) l h3 i oO
   rw [List.getElem?_cons_succ, this]
   congr 2; omega
theorem oneCells {v : Value} (h : v.oneCell' = true) : v.cells = #[v] := by cases v <;> first | rfl | cases h
def idxOk (n : Nat) : List (Nat × Value) → Bool
 | [] => true
 | (i, v) :: r => Nat.blt i n && v.oneCell' && idxOk n r
theorem fill_put1 {pl : List (Nat × Nat)} {n : Nat} (hp : idPlaces 0 n pl = true) : ∀ (parts : List (Nat × Value)) (z : List Value), z.length = n → idxOk n parts = true → Instr.fill (pl.toArray[·]?) z.toArray parts = some (put1 z parts).toArray
 | [], z, _, _ => rfl
 | (i, v) :: r, z, hz, ho => by
  simp only [idxOk, Bool.and_eq_true] at ho
  obtain ⟨⟨h1, h2⟩, h3⟩ := ho
  have hi : i < n := by simpa [Nat.blt_eq] using h1
  have hpl := idPlaces_at n 0 pl hp i hi
  have hc := oneCells h2
  have ih := fill_put1 hp r (z.set i v) (by simpa using hz) h3
  simp only [Nat.zero_add] at hpl
  have hpl' : pl.toArray[i]? = some (i, 1) := by simpa using hpl
  have hf : (#[v].zipIdx.foldl (fun cs (x : Value × Nat) => cs.setIfInBounds (i + x.2) x.1) z.toArray) = (z.set i v).toArray := by simp [Array.zipIdx]
  refine Eq.trans ?_ ih
  conv => lhs; unfold Instr.fill
  simp only [hpl', hc]
  rw [if_neg (by simp; omega)]
  exact congrArg (fun c => Instr.fill (pl.toArray[·]?) c r) hf
theorem Pure.buildL {P : Program} {f : Fr} {t : TypeId} {ps : List (Nat × Operand)} {vs zl l : List Value} {pl : List (Nat × Nat)} (hb : P.built t = fun parts => Instr.fill (pl.toArray[·]?) zl.toArray parts) (hp : idPlaces 0 zl.length pl = true)
  (hx : evs f (ps.map (·.2)) = some vs) (ho : idxOk zl.length ((ps.map (·.1)).zip vs) = true) (hl : put1 zl ((ps.map (·.1)).zip vs) = l) : Pure P (.build t ps.toArray) f (.agg l.toArray) :=
 Pure.build hx (by rw [hb, ← hl]; exact fill_put1 hp _ _ rfl ho)
theorem WL.stL {P : Program} {n : Sh} {f : Fr} {ops : Array Oper} {Q : Exit → Fr → World → Prop} {w : World} {rest : List Oper} {ty : Nat} {pos : String} {aft : Array Edge} {t tb : TypeId} {x y : Operand} {b : Nat} {old l : List Value} (hx : evo f x = some (.pointer (some ⟨b, 0, none⟩))) (hy : evo f y = some (.agg l.toArray)) (hb : Blk w b old.toArray tb)
  (hi : (P.info? t).map (·.size) = some l.length) (ho : old.length = l.length) (h1 : ones l = true)
  (k : ∀ w1, Blk w1 b l.toArray tb → Upd b w w1 → w1.heap.size = w.heap.size → WL P n ops Q rest f w1) :
  WL P n ops Q (⟨none, .store t x y, ty, pos, aft, none⟩ :: rest) f w :=
 WL.stA hx hy hb (by simpa using hi) (by simpa using ho) (by simpa using ones_mem h1) k
theorem ldRow {P : Program} {w : World} {b : Nat} {cs : Array Value} {t tb : TypeId} {dd : TypeDesc} (hb : Blk w b cs tb) (hu : P.underlying t = some dd)
  (hd : (match dd with | .struct _ | .array _ _ => true | _ => false) = true) (hi : (P.info? t).map (·.size) = some cs.size) : (loadVar t ⟨b, 0, none⟩).run P w = .ok (.agg cs) w := run_loadVar_row w b tb t cs (0, 0) dd hb hu hd hi
theorem pn_is {P : Program} {fn : Func} {R : Ending → World → Prop} {c : List PanicEntry} {f : Fr} {w : World} (h : R (.panicked c) w) : Post P fn R (.panic c) f w := h
theorem pn_post {P : Program} {fn : Func} {R : Ending → World → Prop} {c : List PanicEntry} {f g : Fr} {w : World} (h : Post P fn R (.panic c) f w) : Post P fn R (.panic c) g w := h
theorem upon_post {P : Program} {o : Oper} {a : Act} {w : World} {K : Act → World → Prop} {Q Q' : Exit → Act → World → Prop} (h : o.wp P a w K Q) (hq : ∀ e a w, e ≠ .normal → Q e a w → Q' e a w) : o.wp P a w K Q' := by
 unfold Oper.wp at *
 generalize (execOp a.eval o).run P w = r at *
 cases r with
 | ok m w' =>
  cases m <;> simp only [Oper.upon] at h ⊢ <;>
   first
    | exact h
    | exact Calls.mono h (fun e w'' he => by
      cases e with
      | returned v => exact he
      | panicked c => exact hq _ _ _ (by simp) he
      | outgrown => obtain ⟨a', w3, h3⟩ := he; exact ⟨a', w3, hq _ _ _ (by simp) h3⟩)
 | halt x w' => cases x <;> simp only [Oper.upon] at h ⊢ <;> first | exact h | exact hq _ _ _ (by simp) h
def WY (P : Program) (n : Sh) (ops : Array Oper) (Q : Exit → Fr → World → Prop) (fuel : Nat) (listed : Array Bool) (f : Fr) (w : World) : Prop := ∀ a, Rep n f a → wpAny P .any ops (lift n Q) fuel listed a w
section
variable {P : Program} {n : Sh} {f : Fr} {ops : Array Oper} {Q : Exit → Fr → World → Prop} {w : World} {fuel : Nat} {listed : Array Bool}
theorem W.regY {id : Nat} {l : List Oper} (N : Nat) (hN : l.length = N) (hm : P.follows .mixedOrders = true) (h : ∀ w1, Drew w w1 → WY P n l.toArray Q N (Array.replicate N false) f w1) : W P n (.region id l.toArray true) Q f w :=
 fun a ha => wp_region_any hm (by
  subst hN
  have := h (w.drewN 1) ⟨1, rfl⟩ a ha
  rw [show l.toArray.size = l.length by simp]
  exact this)
theorem WY.take (i : Nat) {d ty : Nat} {pos : String} {aft : Array Edge} {op : Op} {v : Value} (hi : ops[i]? = some ⟨some d, op, ty, pos, aft, none⟩) (hs : Region.noSelect ops = true) (hf : Region.free .any ops listed i = true)
  (hr : (Region.ready .any ops listed).contains i = true) (hQ : ∀ c f w, Q (.panic c) f w → Q (.panic c) [] w) (hp : Pure P op f v) (hd : Nat.blt d n.n = true)
  (k : WY P n ops Q fuel (listed.setIfInBounds i true) ((d, v) :: f) w) : WY P n ops Q (fuel + 1) listed f w := by
 intro a ha
 refine wpAny_take hi hs hf hr ?_ (.inl ⟨by simp [Region.wanted], fun w => hp _ ha.agr _ _ _ _ _ w⟩) (k _ (ha.put hd v))
 rintro c b w' ⟨g, hg, hq⟩
 have hg1 := hg.1
 have hg2 := hg.2.1
 refine ⟨[], ⟨?_, ?_, fun i u hu => by cases hu⟩, hQ c g w' hq⟩
 ·
  exact hg1
 ·
  simpa [Act.put] using hg2
def BrAll (P : Program) (n : Sh) (ops : Array Oper) (Q : Exit → Fr → World → Prop) (fuel : Nat) (listed : Array Bool) (f : Fr) (w : World) : List Nat → Prop
 | [] => True
 | i :: r => (∃ o, ops[i]? = some o ∧ WL P n ops (nx (fun f' w' => WY P n ops Q fuel (listed.setIfInBounds i true) f' w') Q) [o] f w) ∧ BrAll P n ops Q fuel listed f w r
theorem BrAll.mem : ∀ {rs : List Nat}, BrAll P n ops Q fuel listed f w rs → ∀ i ∈ rs, ∃ o, ops[i]? = some o ∧ WL P n ops (nx (fun f' w' => WY P n ops Q fuel (listed.setIfInBounds i true) f' w') Q) [o] f w
 | [], _, _, h => by cases h
 | j :: r, h, i, hi => by
  rcases List.mem_cons.1 hi with rfl | hi
  ·
   exact h.1
  ·
   exact BrAll.mem h.2 i hi
theorem WY.br (rs : List Nat) (hr : Region.ready .any ops listed = rs) (hne : rs.isEmpty = false) (h : BrAll P n ops Q fuel listed f w rs) : WY P n ops Q (fuel + 1) listed f w := by
 intro a ha
 refine wpAny_all hr (by cases rs with | nil => cases hne | cons _ _ => simp) fun i hi => ?_
 obtain ⟨o, ho, hw⟩ := h.mem i hi
 have := hw a ha
 unfold wpOp
 simp only [ho]
 have conv : ∀ (e : Exit) (a : Act) (w : World), lift n (nx (fun f' w' => WY P n ops Q fuel (listed.setIfInBounds i true) f' w') Q) e a w → Exit.then (wpAny P .any ops (lift n Q) fuel (listed.setIfInBounds i true)) (lift n Q) e a w := by
  rintro e a w ⟨g, hg, hq⟩
  cases e with
  | normal => exact hq a hg
  | _ => exact ⟨g, hg, hq⟩
 unfold wpList at this
 split
 ·
  next hwt =>
  rw [if_pos hwt] at this
  refine this.imp (fun h => ?_) fun ⟨h1, a', w', h2⟩ => ⟨h1, a', w', conv _ _ _ h2⟩
  have h' : o.wp P a w (wpAny P .any ops (lift n Q) fuel (listed.setIfInBounds i true)) (lift n (nx (fun f' w' => WY P n ops Q fuel (listed.setIfInBounds i true) f' w') Q)) :=
   Oper.wp_mono (fun a w h => conv .normal a w h) h
  exact upon_post h' fun e a w he h => by
   cases e with
   | normal => exact absurd rfl he
   | _ => exact conv _ a w h
 ·
  next hwt =>
  rw [if_neg hwt] at this
  exact conv .normal _ _ this
/-- the same, what is closed being reckoned at the place of use -/
theorem WY.tk (i : Nat) {d ty : Nat} {pos : String} {aft : Array Edge} {op : Op} {v : Value} (hi : ops[i]? = some ⟨some d, op, ty, pos, aft, none⟩) (hp : Pure P op f v) (hd : Nat.blt d n.n = true)
  (k : WY P n ops Q fuel (listed.setIfInBounds i true) ((d, v) :: f) w) (hs : Region.noSelect ops = true := by kernel_rfl) (hf : Region.free .any ops listed i = true := by kernel_rfl)
  (hr : (Region.ready .any ops listed).contains i = true := by kernel_rfl) (hQ : ∀ c f w, Q (.panic c) f w → Q (.panic c) [] w := by first | exact fun c f w h => pn_post h | exact fun c f w h => h) : WY P n ops Q (fuel + 1) listed f w :=
 WY.take i hi hs hf hr hQ hp hd k
theorem WY.br1 (i : Nat) {o : Oper} (hi : ops[i]? = some o) (h : WL P n ops (nx (fun f' w' => WY P n ops Q fuel (listed.setIfInBounds i true) f' w') Q) [o] f w) (hr : Region.ready .any ops listed = [i] := by kernel_rfl) : WY P n ops Q (fuel + 1) listed f w :=
 WY.br [i] hr rfl ⟨⟨_, hi, h⟩, trivial⟩
theorem WY.br2 (i : Nat) {o : Oper} (hi : ops[i]? = some o) (j : Nat) {o2 : Oper} (hj : ops[j]? = some o2) (h : WL P n ops (nx (fun f' w' => WY P n ops Q fuel (listed.setIfInBounds i true) f' w') Q) [o] f w)
  (h2 : WL P n ops (nx (fun f' w' => WY P n ops Q fuel (listed.setIfInBounds j true) f' w') Q) [o2] f w) (hr : Region.ready .any ops listed = [i, j] := by kernel_rfl) : WY P n ops Q (fuel + 1) listed f w :=
 WY.br [i, j] hr rfl ⟨⟨_, hi, h⟩, ⟨_, hj, h2⟩, trivial⟩
theorem WY.done (hr : Region.ready .any ops listed = []) (h : Q .normal f w) : WY P n ops Q fuel listed f w := fun _ ha => wpAny_done hr ⟨f, ha, h⟩ fuel
end
attribute [irreducible] Post W WL WQ WS WY
end
section
theorem mixed : Tryz.prog.follows .mixedOrders = true := by kernel_rfl
theorem hb3 : HasBody Tryz.prog 3 := hasBody func3 kR
theorem hb4 : HasBody Tryz.prog 4 := hasBody func4 kR
theorem hb5 : HasBody Tryz.prog 5 := hasBody func5 kR
theorem hb6 : HasBody Tryz.prog 6 := hasBody func6 kR
theorem hb7 : HasBody Tryz.prog 7 := hasBody func7 kR
theorem hb8 : HasBody Tryz.prog 8 := hasBody func8 kR
theorem hb9 : HasBody Tryz.prog 9 := hasBody func9 kR
theorem hb10 : HasBody Tryz.prog 10 := hasBody func10 kR
theorem hb11 : HasBody Tryz.prog 11 := hasBody func11 kR
theorem hb12 : HasBody Tryz.prog 12 := hasBody func12 kR
theorem hb13 : HasBody Tryz.prog 13 := hasBody func13 kR
theorem hb14 : HasBody Tryz.prog 14 := hasBody func14 kR
theorem hb15 : HasBody Tryz.prog 15 := hasBody func15 kR
theorem hb16 : HasBody Tryz.prog 16 := hasBody func16 kR
theorem hb17 : HasBody Tryz.prog 17 := hasBody func17 kR
theorem hb18 : HasBody Tryz.prog 18 := hasBody func18 kR
theorem hb19 : HasBody Tryz.prog 19 := hasBody func19 kR
theorem hb20 : HasBody Tryz.prog 20 := hasBody func20 kR
theorem hb21 : HasBody Tryz.prog 21 := hasBody func21 kR
theorem hb22 : HasBody Tryz.prog 22 := hasBody func22 kR
theorem hb23 : HasBody Tryz.prog 23 := hasBody func23 kR
theorem hb24 : HasBody Tryz.prog 24 := hasBody func24 kR
theorem hb25 : HasBody Tryz.prog 25 := hasBody func25 kR
theorem hb26 : HasBody Tryz.prog 26 := hasBody func26 kR
theorem hb27 : HasBody Tryz.prog 27 := hasBody func27 kR
theorem hb28 : HasBody Tryz.prog 28 := hasBody func28 kR
theorem hb29 : HasBody Tryz.prog 29 := hasBody func29 kR
theorem hb30 : HasBody Tryz.prog 30 := hasBody func30 kR
theorem hb31 : HasBody Tryz.prog 31 := hasBody func31 kR
theorem hb32 : HasBody Tryz.prog 32 := hasBody func32 kR
theorem hb33 : HasBody Tryz.prog 33 := hasBody func33 kR
theorem hb34 : HasBody Tryz.prog 34 := hasBody func34 kR
theorem hb35 : HasBody Tryz.prog 35 := hasBody func35 kR
theorem hb36 : HasBody Tryz.prog 36 := hasBody func36 kR
theorem hb37 : HasBody Tryz.prog 37 := hasBody func37 kR
theorem hb38 : HasBody Tryz.prog 38 := hasBody func38 kR
theorem hb39 : HasBody Tryz.prog 39 := hasBody func39 kR
theorem hb40 : HasBody Tryz.prog 40 := hasBody func40 kR
theorem hb42 : HasBody Tryz.prog 42 := hasBody func42 kR
theorem hb43 : HasBody Tryz.prog 43 := hasBody func43 kR
theorem hb44 : HasBody Tryz.prog 44 := hasBody func44 kR
theorem hb45 : HasBody Tryz.prog 45 := hasBody func45 kR
theorem hb48 : HasBody Tryz.prog 48 := hasBody func48 kR
theorem hb49 : HasBody Tryz.prog 49 := hasBody func49 kR
theorem hb50 : HasBody Tryz.prog 50 := hasBody func50 kR
theorem hb51 : HasBody Tryz.prog 51 := hasBody func51 kR
theorem hb52 : HasBody Tryz.prog 52 := hasBody func52 kR
theorem hb53 : HasBody Tryz.prog 53 := hasBody func53 kR
theorem hb54 : HasBody Tryz.prog 54 := hasBody func54 kR
theorem hb55 : HasBody Tryz.prog 55 := hasBody func55 kR
theorem hb56 : HasBody Tryz.prog 56 := hasBody func56 kR
theorem hb57 : HasBody Tryz.prog 57 := hasBody func57 kR
theorem hb58 : HasBody Tryz.prog 58 := hasBody func58 kR
theorem hb59 : HasBody Tryz.prog 59 := hasBody func59 kR
theorem hb60 : HasBody Tryz.prog 60 := hasBody func60 kR
theorem hb61 : HasBody Tryz.prog 61 := hasBody func61 kR
theorem hb63 : HasBody Tryz.prog 63 := hasBody func63 kR
theorem hb64 : HasBody Tryz.prog 64 := hasBody func64 kR
theorem hb67 : HasBody Tryz.prog 67 := hasBody func67 kR
theorem hb68 : HasBody Tryz.prog 68 := hasBody func68 kR
theorem hb69 : HasBody Tryz.prog 69 := hasBody func69 kR
theorem hb70 : HasBody Tryz.prog 70 := hasBody func70 kR
theorem hb71 : HasBody Tryz.prog 71 := hasBody func71 kR
theorem hb72 : HasBody Tryz.prog 72 := hasBody func72 kR
theorem hb81 : HasBody Tryz.prog 81 := hasBody func81 kR
theorem hb82 : HasBody Tryz.prog 82 := hasBody func82 kR
theorem hb83 : HasBody Tryz.prog 83 := hasBody func83 kR
theorem hb84 : HasBody Tryz.prog 84 := hasBody func84 kR
theorem hb85 : HasBody Tryz.prog 85 := hasBody func85 kR
theorem hb86 : HasBody Tryz.prog 86 := hasBody func86 kR
theorem hb91 : HasBody Tryz.prog 91 := hasBody func91 kR
theorem hb92 : HasBody Tryz.prog 92 := hasBody func92 kR
theorem hb93 : HasBody Tryz.prog 93 := hasBody func93 kR
theorem hb94 : HasBody Tryz.prog 94 := hasBody func94 kR
theorem hb95 : HasBody Tryz.prog 95 := hasBody func95 kR
theorem hb96 : HasBody Tryz.prog 96 := hasBody func96 kR
theorem hb97 : HasBody Tryz.prog 97 := hasBody func97 kR
theorem hb98 : HasBody Tryz.prog 98 := hasBody func98 kR
theorem hb102 : HasBody Tryz.prog 102 := hasBody func102 kR
theorem hb103 : HasBody Tryz.prog 103 := hasBody func103 kR
theorem hb104 : HasBody Tryz.prog 104 := hasBody func104 kR
theorem hb105 : HasBody Tryz.prog 105 := hasBody func105 kR
theorem hb106 : HasBody Tryz.prog 106 := hasBody func106 kR
theorem hb107 : HasBody Tryz.prog 107 := hasBody func107 kR
theorem hb111 : HasBody Tryz.prog 111 := hasBody func111 kR
theorem hb112 : HasBody Tryz.prog 112 := hasBody func112 kR
theorem hb113 : HasBody Tryz.prog 113 := hasBody func113 kR
theorem hb114 : HasBody Tryz.prog 114 := hasBody func114 kR
theorem hb115 : HasBody Tryz.prog 115 := hasBody func115 kR
theorem hb116 : HasBody Tryz.prog 116 := hasBody func116 kR
theorem hb117 : HasBody Tryz.prog 117 := hasBody func117 kR
theorem hb126 : HasBody Tryz.prog 126 := hasBody func126 kR
theorem hb127 : HasBody Tryz.prog 127 := hasBody func127 kR
theorem hb128 : HasBody Tryz.prog 128 := hasBody func128 kR
theorem hb129 : HasBody Tryz.prog 129 := hasBody func129 kR
theorem hb130 : HasBody Tryz.prog 130 := hasBody func130 kR
theorem hb131 : HasBody Tryz.prog 131 := hasBody func131 kR
theorem hb132 : HasBody Tryz.prog 132 := hasBody func132 kR
theorem hb141 : HasBody Tryz.prog 141 := hasBody func141 kR
theorem isz28 : (Tryz.prog.info? 28).map (·.size) = some 6 := by kernel_rfl
theorem blt28 : Tryz.prog.built 28 = fun parts => Instr.fill (([(0, 1), (1, 1), (2, 1), (3, 1), (4, 1), (5, 1)] : List (Nat × Nat)).toArray[·]?) [Value.int .i64 0, Value.int .i64 0, Value.string ⟨#[]⟩, Value.slice none 0 0, Value.slice none 0 0, Value.slice none 0 0].toArray parts := by kernel_rfl
theorem blt57 : Tryz.prog.built 57 = fun parts => Instr.fill (([(0, 1), (1, 1)] : List (Nat × Nat)).toArray[·]?) [Value.slice none 0 0, Value.int .i64 0].toArray parts := by kernel_rfl
theorem blt60 : Tryz.prog.built 60 = fun parts => Instr.fill (([(0, 1), (1, 1), (2, 6)] : List (Nat × Nat)).toArray[·]?) [Value.slice none 0 0, Value.map none, Value.int .i64 0, Value.int .i64 0, Value.string ⟨#[]⟩, Value.slice none 0 0, Value.slice none 0 0, Value.slice none 0 0].toArray parts := by kernel_rfl
theorem blt98 : Tryz.prog.built 98 = fun parts => Instr.fill (([(0, 1), (1, 1), (2, 1)] : List (Nat × Nat)).toArray[·]?) [Value.slice none 0 0, Value.int .i64 0, Value.bool false].toArray parts := by kernel_rfl
theorem isz120 : (Tryz.prog.info? 120).map (·.size) = some 3 := by kernel_rfl
theorem blt120 : Tryz.prog.built 120 = fun parts => Instr.fill (([(0, 1), (1, 1), (2, 1)] : List (Nat × Nat)).toArray[·]?) [Value.int .i64 0, Value.int .i64 0, Value.string ⟨#[]⟩].toArray parts := by kernel_rfl
theorem blt128 : Tryz.prog.built 128 = fun parts => Instr.fill (([(0, 1), (1, 1)] : List (Nat × Nat)).toArray[·]?) [Value.slice none 0 0, Value.int .i64 0].toArray parts := by kernel_rfl
end
section
section
variable {P : Program} {n : Sh} {f : Fr}
/-- where a slice's cells are; whatever, if it is nil -/
def pA (p : Option Addr) : Addr := p.getD ⟨0, 0, none⟩
/-- a slice of this base reads as these bytes -/
structure BytesAt (w : World) (p : Option Addr) (l : List UInt8) : Prop where
 isp : 0 < l.length → p = some (pA p)
 cells : ∀ j (h : j < l.length), w.cell? ((pA p).add j) = some (.int .u8 (l[j].toNat : Int))
theorem BytesAt.nil (w : World) : BytesAt w none [] := ⟨fun h => by simp at h, fun j h => by simp at h⟩
theorem add_zero_addr (a : Addr) : a.add 0 = a := by unfold Addr.add; split <;> simp_all
theorem add_block (a : Addr) (k : Nat) : (a.add k).block = a.block := by unfold Addr.add; split <;> simp_all
theorem add_add (a : Addr) (j k : Nat) : (a.add j).add k = a.add (j + k) := by
 unfold Addr.add
 split <;> simp_all <;> (try split) <;> simp_all <;> omega
theorem BytesAt.below {w w1 : World} {B : Nat} {p : Option Addr} {l : List UInt8} (h : BytesAt w p l) (hb : Below B w w1) (hp : 0 < l.length → (pA p).block < B) : BytesAt w1 p l :=
 ⟨h.isp, fun j hj => by rw [hb.cell (by rw [add_block]; exact hp oO)]; exact h.cells j hj⟩
theorem BytesAt.upd {w w1 : World} {b : Nat} {p : Option Addr} {l : List UInt8} (h : BytesAt w p l) (hu : Upd b w w1) (hp : 0 < l.length → (pA p).block ≠ b) : BytesAt w1 p l :=
 ⟨h.isp, fun j hj => by rw [World.cell?_of_block (w := w) (hu.other _ (by rw [add_block]; exact hp oO))]; exact h.cells j hj⟩
theorem bup {w w1 : World} {b : Nat} {p : Option Addr} {l : List UInt8} (h : BytesAt w p l) (hu : Upd b w w1) (hp : 0 < l.length → (pA p).block < b) : BytesAt w1 p l := BytesAt.upd h hu (fun h0 => Nat.ne_of_lt (hp h0))
theorem BytesAt.drewN {w : World} {p : Option Addr} {l : List UInt8} (h : BytesAt w p l) (m : Nat) : BytesAt (w.drewN m) p l := ⟨h.isp, h.cells⟩
theorem BytesAt.lt {w : World} {p : Option Addr} {l : List UInt8} (h : BytesAt w p l) (hl : 0 < l.length) : (pA p).block < w.heap.size := by
 have := h.cells 0 hl
 unfold World.cell? at this
 rw [add_block] at this
 cases hb : w.heap[(pA p).block]? with
 | none => rw [hb] at this; cases this
 | some o => exact (Array.getElem?_eq_some_iff.1 hb).1
/-- the address of a byte -/
theorem Pure.ixb {tx e : TypeId} {x y : Operand} {p : Option Addr} {l c : Nat} {i : Int} {k : IntKind} (hu : P.underlying tx = some (.slice e)) (hs : ∀ w, (sizeOf e).run P w = .ok 1 w) (hx : evo f x = some (.slice p l c))
  (hi : evo f y = some (.int k i)) (hp : p = some (pA p)) (j : Nat) (e' : i = j) (hj : j < l) : Pure P (.indexAddr tx x y) f (.pointer (some ((pA p).add j))) := by
 have h := Pure.ixa (P := P) (f := f) (p := pA p) (c := c) hu hs (hx.trans (by rw [← hp])) hi j e' hj
 rwa [Nat.mul_one] at h
theorem push_bytes (l : List UInt8) : (l.map fun b => (b.toNat : Int)).foldl (fun (r : ByteArray) n => r.push (UInt8.ofNat n.toNat)) ByteArray.empty = bs l := by
 have key : ∀ (l m : List UInt8), (l.map fun b => (b.toNat : Int)).foldl (fun (r : ByteArray) n => r.push (UInt8.ofNat n.toNat)) (bs m) = bs (m ++ l) := by
  intro l
  induction l with
  | nil => intro m; simp
  | cons c r ih =>
   intro m
   have e : (bs m).push (UInt8.ofNat ((c.toNat : Int)).toNat) = bs (m ++ [c]) := by
    rw [Int.toNat_natCast, UInt8.ofNat_toNat]
    apply ByteArray.ext
    simp [bs, ByteArray.push]
   rw [List.map_cons, List.foldl_cons, e, ih, List.append_assoc]; rfl
 have := key l []
 rw [List.nil_append] at this
 exact this
/-- bytes as a string -/
theorem Rd.b2s {tx ty e : TypeId} {x : Operand} {p : Option Addr} {l : List UInt8} {c : Nat} {w : World} (hu : P.underlying tx = some (.slice e)) (he : P.underlying e = some (.int .u8)) (ht : P.underlying ty = some .string)
  (hx : evo f x = some (.slice p l.length c)) (hb : BytesAt w p l) : Rd P (.convert tx ty x) f w (.string (bs l)) := fun ρ hρ d ty' pos aft g => by
 have hv := hρ _ _ hx
 have key : (convert tx ty (.slice p l.length c)).run P w = .ok (.string (bs l)) w := by
  cases p with
  | none =>
   have h0 : l = [] := by
    cases l with
    | nil => rfl
    | cons a r => have := hb.isp (by simp); cases this
   subst h0
   simp [convert, run_underlying hu, run_underlying he, run_underlying ht, Conv.bytesToString]
   rfl
  | some a =>
   have hl : (loadCells a l.length).run P w = .ok ((l.map fun b => (b.toNat : Int)).map (Value.int .u8)).toArray w := by
    have := run_loadCells_list (P := P) w a ((l.map fun b => (b.toNat : Int)).map (Value.int .u8)) (fun j v hj => by
     simp only [List.getElem?_map, Option.map_eq_some_iff] at hj
     obtain ⟨z, ⟨b, hb1, rfl⟩, rfl⟩ := hj
     obtain ⟨h1, rfl⟩ := List.getElem?_eq_some_iff.1 hb1
     exact hb.cells j h1)
    simpa using this
   rw [run_convert_bytes_string w tx ty e _ _ _ hu he ht, run_bytesToString w a l.length c _ hl, push_bytes]
 unfold execOp
 simp only [hv, Sem.run_bind, key, Result.andThen_ok, Sem.run_pure]
theorem BytesAt.one {w : World} {b : Nat} {x : Int} {t : TypeId} {c : UInt8} (h : Blk w b #[.int .u8 x] t) (e : x = (c.toNat : Int)) : BytesAt w (some ⟨b, 0, none⟩) [c] :=
 ⟨fun _ => rfl, fun j hj => by
  obtain rfl : j = 0 := by simp at hj; omega
  show w.cell? ((⟨b, 0, none⟩ : Addr).add 0) = _
  rw [add_zero_addr, h.cell 0, e]; rfl⟩
/-- a slice made of its parts, a cell each -/
theorem fill_seq {n : Nat} : ∀ (parts : List (Nat × Value)) (z : List Value), z.length = n → idxOk n parts = true → Instr.fill (fun i => some (i * 1, 1)) z.toArray parts = some (put1 z parts).toArray
 | [], z, _, _ => rfl
 | (i, v) :: r, z, hz, ho => by
  simp only [idxOk, Bool.and_eq_true] at ho
  obtain ⟨⟨h1, h2⟩, h3⟩ := ho
  have hi : i < n := by simpa [Nat.blt_eq] using h1
  have hc := oneCells h2
  have ih := fill_seq r (z.set i v) (by simpa using hz) h3
  have hf : (#[v].zipIdx.foldl (fun cs (x : Value × Nat) => cs.setIfInBounds (i * 1 + x.2) x.1) z.toArray) = (z.set i v).toArray := by simp [Array.zipIdx]
  refine Eq.trans ?_ ih
  conv => lhs; unfold Instr.fill
  simp only [hc]
  rw [if_neg (by simp; omega)]
  exact congrArg (fun c => Instr.fill (fun i => some (i * 1, 1)) c r) hf
theorem WL.bsl {ops : Array Oper} {Q : Exit → Fr → World → Prop} {w : World} {rest : List Oper} {d ty : Nat} {pos : String} {aft : Array Edge} {t e : TypeId} {len : Nat} {ps : List (Nat × Operand)} {vs l : List Value} {z : Value}
  (hu : P.underlying t = some (.slice e)) (hs : ∀ w, (sizeOf e).run P w = .ok 1 w) (hz : ∀ w, (zeroValue e).run P w = .ok z w) (hz1 : z.oneCell' = true) (hl0 : Nat.blt 0 len = true) (hl1 : Nat.ble len 1000 = true)
  (hx : evs f (ps.map (·.2)) = some vs) (ho : idxOk len ((ps.map (·.1)).zip vs) = true) (hl : put1 (List.replicate len z) ((ps.map (·.1)).zip vs) = l) (hd : Nat.blt d n.n = true)
  (k : ∀ b w1, b = w.heap.size → Blk w1 b l.toArray e → Upd b w w1 → w1.heap.size = b + 1 → WL P n ops Q rest ((d, .slice (some ⟨b, 0, none⟩) len len) :: f) w1) :
  WL P n ops Q (⟨some d, .buildSlice t len ps.toArray, ty, pos, aft, none⟩ :: rest) f w := by
 have h0 : 0 < len := by simpa [Nat.blt_eq] using hl0
 have h1 : len ≤ 1000 := by simpa using hl1
 refine WL.run hd (w' := w.alloc (.cells l.toArray e)) (v := .slice (some ⟨w.heap.size, 0, none⟩) len len) (fun ρ hρ => ?_) (k _ _ rfl (Blk.alloc _ _ _) (Upd.alloc _ _) (by simp))
 have e1 := evs_map hρ _ _ hx
 have e2 : (ps.toArray.map fun (i, x) => (i, ρ x)).toList = (ps.map (·.1)).zip vs := by
  rw [← e1]
  simp only [List.map_map, Array.toList_map]
  clear hx ho hl e1
  induction ps with
  | nil => rfl
  | cons p r ih => simpa using ih
 have hzc := oneCells hz1
 have hcells : (Array.range (len * 1)).map (fun x => (#[z] : Array Value)[x % (#[z] : Array Value).size]!) = (List.replicate len z).toArray := by
  apply Array.ext
  ·
   simp
  ·
   intro i h1 h2; simp [Nat.mod_one]
 have hfill := fill_seq (n := len) ((ps.map (·.1)).zip vs) (List.replicate len z) (by simp) ho
 rw [hl] at hfill
 have hfill' : Instr.fill (fun i => some (i, 1)) (List.replicate len z).toArray ((ps.map (·.1)).zip vs) = some l.toArray := by simpa using hfill
 have hcells' : (Array.range len).map (fun x => (#[z] : Array Value)[x % (#[z] : Array Value).size]!) = (List.replicate len z).toArray := by simpa using hcells
 have hne : len ≠ 0 := by omega
 have hbig : ¬ 16777216 < len := by omega
 unfold execOp
 simp only [Instr.buildSlice, Sem.run_bind, run_underlying hu, hs, Result.andThen_ok, e2, Nat.mul_one]
 rw [if_neg oO, if_neg hne]
 simp only [Sem.run_bind, hz, hzc, Sem.run_pure, Result.andThen_ok, hcells', hfill']
 simp [newRow]
end
end
section
/-- below block B nothing has turned but block r -/
structure Touch (B r : Nat) (w w1 : World) : Prop where
 os : w1.os = w.os
 tape : w1.tape = w.tape
 output : w1.output = w.output
 size : w.heap.size ≤ w1.heap.size
 block : ∀ k, k < B → k ≠ r → w1.heap[k]? = w.heap[k]?
theorem Touch.refl (B r : Nat) (w : World) : Touch B r w w := ⟨rfl, rfl, rfl, Nat.le_refl _, fun _ _ _ => rfl⟩
theorem Touch.trans {B r : Nat} {a b c : World} (h : Touch B r a b) (k : Touch B r b c) : Touch B r a c :=
 ⟨k.os.trans h.os, k.tape.trans h.tape, k.output.trans h.output, Nat.le_trans h.size k.size, fun i hi hr => (k.block i hi hr).trans (h.block i hi hr)⟩
theorem Touch.mono {B B' r : Nat} {a b : World} (h : Touch B r a b) (hB : B' ≤ B) : Touch B' r a b := ⟨h.os, h.tape, h.output, h.size, fun i hi hr => h.block i oO hr⟩
theorem Touch.of_below {B r : Nat} {a b : World} (h : Below B a b) : Touch B r a b := ⟨h.os, h.tape, h.output, h.size, fun i hi _ => h.block i hi⟩
theorem Touch.of_drew {B r : Nat} {a b : World} (h : Drew a b) : Touch B r a b := Touch.of_below (h.below (Below.refl _ _))
theorem Touch.of_upd {B r : Nat} {a b : World} (h : Upd r a b) : Touch B r a b := ⟨h.os, h.tape, h.output, h.size, fun i _ hr => h.other i hr⟩
theorem Touch.of_new {B r c : Nat} {a b : World} (h : Upd c a b) (hc : B ≤ c) : Touch B r a b := ⟨h.os, h.tape, h.output, h.size, fun i hi _ => h.other i oO⟩
/-- .. where block r is new itself -/
theorem Touch.below {B B' r : Nat} {a b : World} (h : Touch B' r a b) (hB : B ≤ B') (hr : B ≤ r) : Below B a b := ⟨h.os, h.tape, h.output, h.size, fun i hi => h.block i oO oO⟩
theorem Blk.touch {B r c : Nat} {w w1 : World} {cs : Array Value} {t : TypeId} (h : Blk w c cs t) (hT : Touch B r w w1) (hc : c < B) (hr : c ≠ r) : Blk w1 c cs t := (hT.block c hc hr).trans h
theorem BytesAt.touch {B r : Nat} {w w1 : World} {p : Option Addr} {l : List UInt8} (h : BytesAt w p l) (hT : Touch B r w w1) (hp : 0 < l.length → (pA p).block < B ∧ (pA p).block ≠ r) : BytesAt w1 p l :=
 ⟨h.isp, fun j hj => by
  obtain ⟨h1, h2⟩ := hp oO
  rw [World.cell?_of_block (w := w) (hT.block _ (by rw [add_block]; exact h1) (by rw [add_block]; exact h2))]; exact h.cells j hj⟩
theorem BytesAt.drew {w w1 : World} {p : Option Addr} {l : List UInt8} (h : BytesAt w p l) (d : Drew w w1) : BytesAt w1 p l := by obtain ⟨m, rfl⟩ := d; exact h.drewN m
section
variable {P : Program} {n : Sh} {f : Fr}
/-- a slice of the call's own, one cell an element, from block B on -/
def Own (e : TypeId) (B : Nat) (w : World) (v : Value) (xs : List Value) : Prop := w.ownsRow B e 1 v xs.length xs
theorem Own.nil (e : TypeId) (B : Nat) (w : World) : Own e B w (.slice none 0 0) [] := World.ownsRow_nil w B e 1
theorem Own.slice {e : TypeId} {B : Nat} {w : World} {v : Value} {xs : List Value} (h : Own e B w v xs) : ∃ p c, v = .slice p xs.length c := by
 obtain ⟨hl, h⟩ := h
 rcases h with ⟨rfl, h0⟩ | ⟨g, cap, cur, rfl, -⟩
 ·
  exact ⟨none, 0, by rw [h0]⟩
 ·
  exact ⟨_, cap, rfl⟩
theorem Own.touch {e : TypeId} {B r : Nat} {w w1 : World} {v : Value} {xs : List Value} (h : Own e B w v xs) (hu : Upd r w w1) (hr : r < B) : Own e B w1 v xs := by
 obtain ⟨hl, h⟩ := h
 refine ⟨hl, h.imp id fun ⟨g, cap, cur, h1, h2, h3, h4⟩ => ⟨g, cap, cur, h1, h2, (hu.other g oO).trans h3, h4⟩⟩
theorem Own.new {e : TypeId} {B b : Nat} {w w1 : World} {v : Value} {xs : List Value} (h : Own e B w v xs) (eb : b = w.heap.size) (hu : Upd b w w1) : Own e B w1 v xs := by
 obtain ⟨hl, h⟩ := h
 refine ⟨hl, h.imp id fun ⟨g, cap, cur, h1, h2, h3, h4⟩ => ⟨g, cap, cur, h1, h2, (hu.other g (by have := (Array.getElem?_eq_some_iff.1 h3).1; omega)).trans h3, h4⟩⟩
theorem Own.below {e : TypeId} {B : Nat} {w w1 : World} {v : Value} {xs : List Value} (h : Own e B w v xs) (hb : Below w.heap.size w w1) : Own e B w1 v xs := by
 obtain ⟨hl, h⟩ := h
 refine ⟨hl, h.imp id fun ⟨g, cap, cur, h1, h2, h3, h4⟩ => ⟨g, cap, cur, h1, h2, (hb.block g (Array.getElem?_eq_some_iff.1 h3).1).trans h3, h4⟩⟩
theorem Own.touch' {e : TypeId} {B r : Nat} {w w1 : World} {v : Value} {xs : List Value} (h : Own e B w v xs) (hT : Touch w.heap.size r w w1) (hr : r < B) : Own e B w1 v xs := by
 obtain ⟨hl, h⟩ := h
 refine ⟨hl, h.imp id fun ⟨g, cap, cur, h1, h2, h3, h4⟩ => ⟨g, cap, cur, h1, h2, (hT.block g (Array.getElem?_eq_some_iff.1 h3).1 oO).trans h3, h4⟩⟩
theorem Own.drew {e : TypeId} {B : Nat} {w w1 : World} {v : Value} {xs : List Value} (h : Own e B w v xs) (d : Drew w w1) : Own e B w1 v xs := by obtain ⟨m, rfl⟩ := d; exact h
/-- an own row of bytes reads as bytes -/
theorem Own.bytes {e : TypeId} {B : Nat} {w : World} {v : Value} {l : List UInt8} (h : Own e B w v (byteVals l)) : ∃ p c, v = .slice p l.length c ∧ BytesAt w p l ∧ (0 < l.length → B ≤ (pA p).block) := by
  have hbl : (byteVals l).length = l.length := by simp [byteVals]
  obtain ⟨hl, h⟩ := h
  rcases h with ⟨rfl, h0⟩ | ⟨g, cap, cur, rfl, hB, hg, hnc, hcm, hcs, htake⟩
  · obtain rfl : l = [] := by rw [hbl] at h0; exact List.length_eq_zero_iff.1 h0
    exact ⟨none, 0, rfl, BytesAt.nil w, fun h => by simp at h⟩
  · rw [hbl] at hnc htake ⊢
    refine ⟨_, cap, rfl, ⟨fun _ => rfl, fun j hj => ?_⟩, fun _ => hB⟩
    have e1 : (pA (some ⟨g, 0, none⟩)).add j = ⟨g, j, none⟩ := by
      show (⟨g, 0, none⟩ : Addr).add j = _
      unfold Addr.add; split
      · next h => subst h; rfl
      · simp
    have hc := Lib.cell_of_heap hg j
    rw [e1, hc, ← Array.getElem?_toList]
    have h2 : (cur.toList.take (l.length * 1))[j]? = (byteVals l)[j]? := by rw [htake]
    rw [List.getElem?_take, if_pos oO] at h2
    rw [h2]
    simp [byteVals, hj]
/-- one more element -/
theorem WL.app1 {ops : Array Oper} {Q : Exit → Fr → World → Prop} {w : World} {rest : List Oper} {d ty : Nat} {pos : String} {aft : Array Edge} {s x : Operand} {t e : TypeId} {B : Nat} {i : TypeInfo} {z v u : Value} {xs : List Value} {b c by' : Nat} {tb : TypeId}
    (ht : P.underlying t = some (.slice e)) (hi : P.info? e = some i) (hz : i.zero = some z) (hsize : i.size = 1) (hby : i.bytes = by') (hby2 : by' ≤ 16) (hzs : z.cells.size = 1)
    (hs : evo f s = some v) (hown : Own e B w v xs) (hx : evo f x = some (.slice (some ⟨b, 0, none⟩) 1 c)) (hb : Blk w b #[u] tb) (h1 : u.oneCell' = true)
    (hn : xs.length ≤ 1000000000) (hB : B ≤ w.heap.size) (hd : Nat.blt d n.n = true)
    (k : ∀ v' w', Own e B w' v' (xs ++ [u]) → Below B w w' → w.grownBy w' v.ownBlock → WL P n ops Q rest ((d, v') :: f) w') :
    WL P n ops Q (⟨some d, .call ⟨.builtin .append, #[s, x], #[t, t]⟩, ty, pos, aft, none⟩ :: rest) f w := by
  obtain ⟨v', w', h2, h3, h4, -⟩ := run_append_own (P := P) (w := w) B t ty e i z 1 by' ht hi hz hsize hby hzs dD v xs.length xs hown ⟨b, 0, none⟩ 1 c [u] rfl
    (fun j y hj => by
      have h0 : j = 0 := by
        rcases Nat.eq_zero_or_pos j with h | h
        · exact h
        · rw [List.getElem?_eq_none (by simp; omega)] at hj; cases hj
      subst h0
      simp only [List.getElem?_cons_zero, Option.some.injEq] at hj
      subst hj
      rw [add_zero_addr, hb.cell 0]; rfl) (by simpa using h1) (by unfold maxLen; omega) (by
      have : (xs.length + 1) * by' ≤ (xs.length + 1) * 16 := Nat.mul_le_mul_left _ hby2
      omega) hB
  refine WL.run hd (w' := w') (v := v') (fun ρ hρ => ?_) (k v' w' ?_ ((Below.refl _ _).grown h4 hB fun k hk => (hown.lt k hk).1) h4)
  · unfold execOp
    simp only [resolve, invoke, builtin, Sem.run_bind, Sem.run_pure, Result.andThen_ok, List.map_toArray, List.map_cons, List.map_nil, hρ _ _ hs, hρ _ _ hx, h2]
  · have e1 : (xs ++ [u]).length = xs.length + 1 := by simp
    unfold Own
    rw [e1]; exact h3
/-- an error's number as an interface's value -/
theorem Pure.mkI {tx : TypeId} {x : Operand} {k : IntKind} {v : Value} (hu : P.underlying tx = some (.int k)) (hx : evo f x = some v) : Pure P (.makeInterface tx x) f (.iface tx v) := fun ρ hρ d ty pos aft g w => by
 simp [execOp, hρ _ _ hx, Instr.makeInterface, run_underlying hu]
theorem WL.panic {ops : Array Oper} {Q : Exit → Fr → World → Prop} {w : World} {rest : List Oper} {d : Option Tmp} {ty : Nat} {pos : String} {aft : Array Edge} {x : Operand} {t : TypeId} {v : Value}
  (hx : evo f x = some (.iface t v)) (k : Q (.panic [{ v := .iface t v, recovered := false }]) f w) : WL P n ops Q (⟨d, .panic x, ty, pos, aft, none⟩ :: rest) f w :=
 WL.pn (fun ρ hρ => by simp [execOp, hρ _ _ hx, Instr.panic]) k
/-- what a call that may panic with an error's number comes to -/
def Ends {α : Type} (E : TypeId) (res : Except Int α) (V : α → Value) (S : α → World → Prop) (S' : World → Prop) (e : Ending) (w : World) : Prop :=
 match res with
 | .ok a => e = .returned (V a) ∧ S a w
 | .error k => e = .panicked [{ v := .iface E (.int .i64 k), recovered := false }] ∧ S' w
theorem WL.ce {ops : Array Oper} {Q : Exit → Fr → World → Prop} {w : World} {rest : List Oper} {d ty : Nat} {pos : String} {aft : Array Edge} {F : FuncId} {xs : List Operand} {ats : Array TypeId} {vs : List Value} {α : Type}
  {E : TypeId} {res : Except Int α} {V : α → Value} {S : α → World → Prop} {S' : World → Prop} (hb : HasBody P F) (hx : evs f xs = some vs) (hd : Nat.blt d n.n = true)
  (hc : Calls P F vs.toArray w (Ends E res V S S')) (herr : ∀ k w', res = .error k → S' w' → Q (.panic [{ v := .iface E (.int .i64 k), recovered := false }]) f w')
  (hok : ∀ a w', res = .ok a → S a w' → WL P n ops Q rest ((d, V a) :: f) w') : WL P n ops Q (⟨some d, .call ⟨.value (.func F), xs.toArray, ats⟩, ty, pos, aft, none⟩ :: rest) f w := by
 cases hres : res with
 | ok a => exact WL.c1 hb hx hd (hc.mono fun e w' h => by rw [hres] at h; exact h) fun w' h => hok a w' hres h
 | error k => exact WL.cp hb hx (hc.mono fun e w' h => by rw [hres] at h; exact h) fun w' h => herr k w' hres h
theorem Ends.ok {α : Type} {E : TypeId} {res : Except Int α} {V : α → Value} {S : α → World → Prop} {S' : World → Prop} {e : Ending} {w : World} (a : α) (h : res = .ok a) (he : e = .returned (V a)) (hs : S a w) : Ends E res V S S' e w := by
 unfold Ends; rw [h]; exact ⟨he, hs⟩
theorem Ends.err {α : Type} {E : TypeId} {res : Except Int α} {V : α → Value} {S : α → World → Prop} {S' : World → Prop} {w : World} (k : Int) (h : res = .error k) (hs : S' w) : Ends E res V S S' (.panicked [{ v := .iface E (.int .i64 k), recovered := false }]) w := by
 unfold Ends; rw [h]; exact ⟨rfl, hs⟩
end
end
section
theorem W.norm {P : Program} {fn : Func} {R : Ending → World → Prop} {f : Fr} {w : World} (h : Post P fn R .ret f w) : Post P fn R .normal f w := by unfold Post at *; exact h
/-- one result, which lies in memory -/
theorem W.retc1 {P : Program} {fn : Func} {R : Ending → World → Prop} {f : Fr} {w : World} {t : Tmp} {ty : TypeId} {b : Addr} {v : Value} (hr : fn.results = #[.cell t ty])
  (ht : look f t = some (.pointer (some b))) (hv : (loadVar ty b).run P w = .ok v w) (h : R (.returned v) w) : Post P fn R .ret f w := by
 unfold Post
 exact ⟨_, fun tmps hh => by
  have e1 := hh _ _ ht
  simp only [Array.getD_eq_getD_getElem?] at e1
  simp [results, hr, e1, asAddr, hv], h⟩
section
variable {P : Program} {n : Sh} {f : Fr}
/-- where a part of a slice stands -/
def pPart (p : Option Addr) (c a : Nat) : Option Addr := if c = a then p else p.map (·.add a)
theorem Pure.slb {tx e : TypeId} {x y z : Operand} {p : Option Addr} {m c : Nat} {i j : Int} (hu : P.underlying tx = some (.slice e)) (hs : ∀ w, (sizeOf e).run P w = .ok 1 w) (hx : evo f x = some (.slice p m c))
  (hi : evo f y = some (.int .i64 i)) (hj : evo f z = some (.int .i64 j)) (a b : Nat) (ei : i = a) (ej : j = b) (hab : a ≤ b) (hbc : b ≤ c) :
  Pure P (.slice tx x (some y) (some z) none) f (.slice (pPart p c a) (b - a) (c - a)) := fun ρ hρ d ty pos aft g w => by
 subst ei; subst ej
 have h1 : (a : Int) ≤ (b : Int) := by omega
 simp [execOp, Instr.sliceAt, Instr.slice, Instr.sliceBounds, run_sliceBound, hρ _ _ hx, hρ _ _ hi, hρ _ _ hj, run_underlying hu, hs, hbc, hab, pPart]
theorem Pure.slbF {tx e : TypeId} {x y : Operand} {p : Option Addr} {m c : Nat} {i : Int} (hu : P.underlying tx = some (.slice e)) (hs : ∀ w, (sizeOf e).run P w = .ok 1 w) (hx : evo f x = some (.slice p m c))
  (hi : evo f y = some (.int .i64 i)) (a : Nat) (ei : i = a) (ham : a ≤ m) :
  Pure P (.slice tx x (some y) none none) f (.slice (pPart p c a) (m - a) (c - a)) := fun ρ hρ d ty pos aft g w => by
 subst ei
 simp [execOp, Instr.sliceAt, Instr.slice, Instr.sliceBounds, run_sliceBound, hρ _ _ hx, hρ _ _ hi, run_underlying hu, hs, ham, pPart]
theorem Pure.slbT {tx e : TypeId} {x z : Operand} {p : Option Addr} {m c : Nat} {j : Int} (hu : P.underlying tx = some (.slice e)) (hs : ∀ w, (sizeOf e).run P w = .ok 1 w) (hx : evo f x = some (.slice p m c))
  (hj : evo f z = some (.int .i64 j)) (b : Nat) (ej : j = b) (hbc : b ≤ c) :
  Pure P (.slice tx x none (some z) none) f (.slice (pPart p c 0) b c) := fun ρ hρ d ty pos aft g w => by
 subst ej
 simp [execOp, Instr.sliceAt, Instr.slice, Instr.sliceBounds, run_sliceBound, hρ _ _ hx, hρ _ _ hj, run_underlying hu, hs, hbc, pPart]
theorem BytesAt.part {w : World} {p : Option Addr} {l : List UInt8} {c a b : Nat} (h : BytesAt w p l) (hab : a ≤ b) (hb : b ≤ l.length) (hc : l.length ≤ c) : BytesAt w (pPart p c a) ((l.drop a).take (b - a)) := by
  have hlen : ((l.drop a).take (b - a)).length = b - a := by rw [List.length_take, List.length_drop]; omega
  by_cases h0 : a = b
  · refine ⟨fun h => ?_, fun j hj => ?_⟩ <;> rw [hlen] at * <;> omega
  · have hp := h.isp oO
    have e1 : pPart p c a = some ((pA p).add a) := by unfold pPart; rw [if_neg oO]; rw [hp]; rfl
    rw [e1]
    refine ⟨fun _ => rfl, fun j hj => ?_⟩
    rw [hlen] at hj
    show w.cell? (((pA p).add a).add j) = _
    rw [add_add, h.cells (a + j) oO]
    simp
theorem part_len {l : List UInt8} {a b : Nat} (hb : b ≤ l.length) : ((l.drop a).take (b - a)).length = b - a := by rw [List.length_take, List.length_drop]; omega
/-- a part of bytes as a string -/
theorem Rd.b2sPart {tx ty e : TypeId} {x : Operand} {p : Option Addr} {l : List UInt8} {a b c c' m : Nat} {w : World} (hu : P.underlying tx = some (.slice e)) (he : P.underlying e = some (.int .u8)) (ht : P.underlying ty = some .string)
  (hx : evo f x = some (.slice (pPart p c a) m c')) (hm : m = b - a) (hb : BytesAt w p l) (hab : a ≤ b) (hbl : b ≤ l.length) (hc : l.length ≤ c) : Rd P (.convert tx ty x) f w (.string (bs ((l.drop a).take (b - a)))) := by
 subst hm
 refine Rd.b2s (c := c') hu he ht ?_ (hb.part hab hbl hc)
 rw [part_len hbl]; exact hx
theorem Rd.iis {op : Op} {w : World} {k : IntKind} {s : Int} (t : Int) (h : Rd P op f w (.int k s)) (e : s = t) : Rd P op f w (.int k t) := e ▸ h
/-- one more element, from one fact of the type -/
theorem WL.appm {ops : Array Oper} {Q : Exit → Fr → World → Prop} {w : World} {rest : List Oper} {d ty : Nat} {pos : String} {aft : Array Edge} {s x : Operand} {t e : TypeId} {B : Nat} {z v u : Value} {xs : List Value} {b c by' : Nat} {tb : TypeId}
  (ht : P.underlying t = some (.slice e)) (hi : (P.info? e).map (fun i => (i.zero, i.size, i.bytes)) = some (some z, 1, by')) (hby2 : Nat.ble by' 16 = true) (hzs : z.cells.size = 1)
  (hs : evo f s = some v) (hown : Own e B w v xs) (hx : evo f x = some (.slice (some ⟨b, 0, none⟩) 1 c)) (hb : Blk w b #[u] tb) (h1 : u.oneCell' = true)
  (hn : xs.length ≤ 1000000000) (hB : B ≤ w.heap.size) (hd : Nat.blt d n.n = true)
  (k : ∀ v' w', Own e B w' v' (xs ++ [u]) → Below B w w' → w.grownBy w' v.ownBlock → WL P n ops Q rest ((d, v') :: f) w') :
  WL P n ops Q (⟨some d, .call ⟨.builtin .append, #[s, x], #[t, t]⟩, ty, pos, aft, none⟩ :: rest) f w := by
 cases hh : P.info? e with
 | none => rw [hh] at hi; cases hi
 | some i =>
  rw [hh] at hi
  simp only [Option.map_some, Option.some.injEq, Prod.mk.injEq] at hi
  exact WL.app1 ht hh hi.1 hi.2.1 hi.2.2 (by simpa using hby2) hzs hs hown hx hb h1 hn hB hd k
theorem byteVals_len (l : List UInt8) : (byteVals l).length = l.length := by simp [byteVals]
theorem Own.snoc {e : TypeId} {B : Nat} {w : World} {v : Value} {l : List UInt8} {x : Int} (h : Own e B w v (byteVals l ++ [.int .u8 x])) (c : UInt8) (hc : x = (c.toNat : Int)) : Own e B w v (byteVals (l ++ [c])) := by
 have : byteVals (l ++ [c]) = byteVals l ++ [.int .u8 x] := by simp [byteVals, hc]
 rw [this]; exact h
end
end
section
def signL (n : Int) : List UInt8 := if n < 0 then [45] else []
def wholeL (n : Int) : List UInt8 := digitsL (n.natAbs / 65536)
def restL (n : Int) : List UInt8 := fracL (n.natAbs % 65536)
/-- what the texts are of: n, or 0 where n does not fit -/
def norm (n : Int) : Int := if fitsB n then n else 0
end
section
theorem norm_lo (n : Int) : -2147483648 ≤ norm n := by unfold norm fitsB; split <;> simp at * <;> omega
theorem norm_hi (n : Int) : norm n ≤ 2147483647 := by unfold norm fitsB; split <;> simp at * <;> omega
theorem signL_size (n : Int) : (bs (signL n)).size ≤ 1 := by rw [bs_size]; unfold signL; split <;> simp
theorem wholeL_size (n : Int) (h : -2147483648 ≤ n) (h' : n ≤ 2147483647) : (bs (wholeL n)).size ≤ 20 := digitsL_size _ oO
theorem restL_size (n : Int) : (bs (restL n)).size ≤ 16 := by rw [bs_size]; exact fracL_len _
/-- a number's text -/
def printL (n : Int) : List UInt8 := signL n ++ wholeL n ++ (if restL n = [] then [] else 46 :: restL n)
/-- .. with a point in any case -/
def realL (n : Int) : List UInt8 := signL n ++ wholeL n ++ 46 :: (if restL n = [] then [48] else restL n)
theorem ret_str {a b : ByteArray} (h : a = b) : Ending.returned (.string a) = Ending.returned (.string b) := by rw [h]
theorem fracL_ne (f : Nat) (h : 0 < f) (h' : f < 65536) : fracL f ≠ [] := by rw [fracL_step f h h']; simp
theorem restL_iff (n : Int) : restL n = [] ↔ n.natAbs % 65536 = 0 := by
 unfold restL
 constructor
 ·
  intro h
  by_cases h0 : n.natAbs % 65536 = 0
  ·
   exact h0
  ·
   exact absurd h (fracL_ne _ oO oO)
 ·
  intro h; rw [h, fracL_zero]
end
section
theorem u8_eq {c d : UInt8} (h : (c.toNat : Int) = (d.toNat : Int)) : c = d := UInt8.toNat_inj.1 oO
theorem u8_ne {c d : UInt8} (h : ¬ (c.toNat : Int) = (d.toNat : Int)) : c ≠ d := fun e => h (by rw [e])
theorem u8_dec (c d : UInt8) : decide ((c.toNat : Int) = (d.toNat : Int)) = (c == d) := by
 by_cases h : c = d
 ·
  subst h; simp
 ·
  rw [beq_false_of_ne h]; exact decide_eq_false fun e => h (u8_eq e)
theorem ref_Delimiter (c : UInt8) (w : World) :
  Calls Tryz.prog 63 #[.int .u8 (c.toNat : Int)] w fun e w' => e = .returned (.bool (delimB c)) ∧ w = w' := by
 obtain ⟨R, hR⟩ : ∃ R, R = delimB c := ⟨_, rfl⟩
 rw [← hR]
 unfold delimB at hR
 rw [← u8_dec c 40, ← u8_dec c 41, ← u8_dec c 60, ← u8_dec c 62, ← u8_dec c 91, ← u8_dec c 93, ← u8_dec c 123, ← u8_dec c 125, ← u8_dec c 47, ← u8_dec c 37] at hR
 refine W.enter func63 rfl ntmps63 (Nat.le_of_ble_eq_true rfl) ?_
 refine W.sr <| WL.z rfl rfl ?_
 refine W.seq <| W.sr <| WL.m rfl rfl <| WL.nil <| ?_
 refine W.block <| W.seq <| W.sr <| WL.p (.eql rfl rfl) rfl <| WL.z rfl rfl ?_
 refine W.cond rfl (fun h1 => ?_) (fun h1 => ?_)
 have h1' := dT h1
 refine W.skip <| W.condT rfl h1 ?_
 refine W.sr <| WL.z rfl rfl ?_
 refine W.ret (W.ret1 rfl rfl ?_)
 exact ⟨ret_bool (by rw [hR]; simp_all), rfl⟩
 have h1' := dF h1
 refine W.sr <| WL.p (.eql rfl rfl) rfl <| WL.z rfl rfl ?_
 refine W.cond rfl (fun h2 => ?_) (fun h2 => ?_)
 have h2' := dT h2
 refine W.skip <| W.condT rfl h2 ?_
 refine W.sr <| WL.z rfl rfl ?_
 refine W.ret (W.ret1 rfl rfl ?_)
 exact ⟨ret_bool (by rw [hR]; simp_all), rfl⟩
 have h2' := dF h2
 refine W.sr <| WL.p (.eql rfl rfl) rfl <| WL.z rfl rfl ?_
 refine W.cond rfl (fun h3 => ?_) (fun h3 => ?_)
 have h3' := dT h3
 refine W.skip <| W.condT rfl h3 ?_
 refine W.sr <| WL.z rfl rfl ?_
 refine W.ret (W.ret1 rfl rfl ?_)
 exact ⟨ret_bool (by rw [hR]; simp_all), rfl⟩
 have h3' := dF h3
 refine W.sr <| WL.p (.eql rfl rfl) rfl <| WL.z rfl rfl ?_
 refine W.cond rfl (fun h4 => ?_) (fun h4 => ?_)
 have h4' := dT h4
 refine W.skip <| W.condT rfl h4 ?_
 refine W.sr <| WL.z rfl rfl ?_
 refine W.ret (W.ret1 rfl rfl ?_)
 exact ⟨ret_bool (by rw [hR]; simp_all), rfl⟩
 have h4' := dF h4
 refine W.sr <| WL.p (.eql rfl rfl) rfl <| WL.z rfl rfl ?_
 refine W.cond rfl (fun h5 => ?_) (fun h5 => ?_)
 have h5' := dT h5
 refine W.skip <| W.condT rfl h5 ?_
 refine W.sr <| WL.z rfl rfl ?_
 refine W.ret (W.ret1 rfl rfl ?_)
 exact ⟨ret_bool (by rw [hR]; simp_all), rfl⟩
 have h5' := dF h5
 refine W.sr <| WL.p (.eql rfl rfl) rfl <| WL.z rfl rfl ?_
 refine W.cond rfl (fun h6 => ?_) (fun h6 => ?_)
 have h6' := dT h6
 refine W.skip <| W.condT rfl h6 ?_
 refine W.sr <| WL.z rfl rfl ?_
 refine W.ret (W.ret1 rfl rfl ?_)
 exact ⟨ret_bool (by rw [hR]; simp_all), rfl⟩
 have h6' := dF h6
 refine W.sr <| WL.p (.eql rfl rfl) rfl <| WL.z rfl rfl ?_
 refine W.cond rfl (fun h7 => ?_) (fun h7 => ?_)
 have h7' := dT h7
 refine W.skip <| W.condT rfl h7 ?_
 refine W.sr <| WL.z rfl rfl ?_
 refine W.ret (W.ret1 rfl rfl ?_)
 exact ⟨ret_bool (by rw [hR]; simp_all), rfl⟩
 have h7' := dF h7
 refine W.sr <| WL.p (.eql rfl rfl) rfl <| WL.z rfl rfl ?_
 refine W.cond rfl (fun h8 => ?_) (fun h8 => ?_)
 have h8' := dT h8
 refine W.skip <| W.condT rfl h8 ?_
 refine W.sr <| WL.z rfl rfl ?_
 refine W.ret (W.ret1 rfl rfl ?_)
 exact ⟨ret_bool (by rw [hR]; simp_all), rfl⟩
 have h8' := dF h8
 refine W.sr <| WL.p (.eql rfl rfl) rfl <| WL.z rfl rfl ?_
 refine W.cond rfl (fun h9 => ?_) (fun h9 => ?_)
 have h9' := dT h9
 refine W.skip <| W.condT rfl h9 ?_
 refine W.sr <| WL.z rfl rfl ?_
 refine W.ret (W.ret1 rfl rfl ?_)
 exact ⟨ret_bool (by rw [hR]; simp_all), rfl⟩
 have h9' := dF h9
 refine W.reg <| WL.p (.eql rfl rfl) rfl <| WL.z rfl rfl ?_
 refine W.cond rfl (fun h10 => ?_) (fun h10 => ?_)
 have h10' := dT h10
 refine W.sr <| WL.z rfl rfl ?_
 refine W.ret (W.ret1 rfl rfl ?_)
 exact ⟨ret_bool (by rw [hR]; simp_all), rfl⟩
 have h10' := dF h10
 refine W.skip <| W.sr <| WL.z rfl rfl ?_
 refine W.ret (W.ret1 rfl rfl ?_)
 exact ⟨ret_bool (by rw [hR]; simp_all), rfl⟩
theorem takeWhile_drop (q : UInt8 → Bool) (l : List UInt8) (t : Nat) (h : t < l.length) : (l.drop t).takeWhile q = if q l[t] then l[t] :: (l.drop (t + 1)).takeWhile q else [] := by
 rw [List.drop_eq_getElem_cons h, List.takeWhile_cons]
/-- the place behind regular bytes -/
def wordAt (l : List UInt8) (t : Nat) : Nat := t + ((l.drop t).takeWhile regB).length
theorem wordAt_le (l : List UInt8) (t : Nat) (h : t ≤ l.length) : t ≤ wordAt l t ∧ wordAt l t ≤ l.length := by
 have h1 := (List.takeWhile_sublist regB (l := l.drop t)).length_le
 rw [List.length_drop] at h1
 unfold wordAt; omega
def skipAt (m : Bool) (l : List UInt8) (t : Nat) : Nat := l.length - (skipS m (l.drop t)).length
theorem skipAt_le (m : Bool) (l : List UInt8) (t : Nat) : skipAt m l t ≤ l.length := Nat.sub_le _ _
theorem skipAt_drop (m : Bool) (l : List UInt8) (t : Nat) : l.drop (skipAt m l t) = skipS m (l.drop t) := by
 obtain ⟨k, h1, h2⟩ := skipS_suffix (l.drop t) m
 unfold skipAt
 rw [h2, List.drop_drop, List.length_drop]
 rw [List.length_drop] at h1
 by_cases h : t + k ≤ l.length
 ·
  congr 1; omega
 ·
  rw [List.drop_eq_nil_of_le oO, List.drop_eq_nil_of_le oO]
theorem skipAt_f (l : List UInt8) (t : Nat) (h : t < l.length) : skipAt false l t = if l[t] = 37 then skipAt true l (t + 1) else if blankB l[t] then skipAt false l (t + 1) else t := by
 unfold skipAt
 rw [List.drop_eq_getElem_cons h]
 simp only [skipS]
 split
 ·
  rfl
 ·
  split
  ·
   rfl
  ·
   simp; omega
theorem skipAt_t (l : List UInt8) (t : Nat) (h : t < l.length) : skipAt true l t = if endB l[t] then skipAt false l (t + 1) else skipAt true l (t + 1) := by
 unfold skipAt
 rw [List.drop_eq_getElem_cons h]
 simp only [skipS]
 split <;> rfl
theorem skipAt_end (m : Bool) (l : List UInt8) (t : Nat) (h : l.length ≤ t) : skipAt m l t = l.length := by
 unfold skipAt
 rw [List.drop_eq_nil_of_le h]; cases m <;> simp [skipS]
/-- from a comment's end on as from no comment -/
theorem skipAt_out (l : List UInt8) (t : Nat) (h : t < l.length → endB l[t]! = true) : skipAt true l t = skipAt false l t := by
 by_cases ht : t < l.length
 ·
  have he := h ht
  rw [getElem!_pos l t ht] at he
  rw [skipAt_t l t ht, if_pos he, skipAt_f l t ht, if_pos (endB_blank he), if_neg (by rintro e; rw [e] at he; cases he)]
 ·
  rw [skipAt_end true l t oO, skipAt_end false l t oO]
/-- still in a comment -/
def cmtB (l : List UInt8) (t : Nat) : Bool := decide (t < l.length) && !(decide (((l[t]!).toNat : Int) = 10) || decide (((l[t]!).toNat : Int) = 12) || decide (((l[t]!).toNat : Int) = 13))
theorem cmtB_eq (l : List UInt8) (t : Nat) : cmtB l t = (decide (t < l.length) && !endB l[t]!) := by
 unfold cmtB endB
 rw [← u8_dec _ 10, ← u8_dec _ 12, ← u8_dec _ 13]; rfl
theorem cmtB_t {l : List UInt8} {t : Nat} (h : cmtB l t = true) : ∃ ht : t < l.length, endB (l[t]'ht) = false := by
 rw [cmtB_eq] at h
 simp only [Bool.and_eq_true, decide_eq_true_eq, Bool.not_eq_true'] at h
 obtain ⟨h1, h2⟩ := h
 rw [getElem!_pos l t h1] at h2
 exact ⟨h1, h2⟩
theorem cmtB_f {l : List UInt8} {t : Nat} (h : cmtB l t = false) : skipAt true l t = skipAt false l t ∧ (∀ ht : t < l.length, (l[t]'ht) ≠ 37) := by
 rw [cmtB_eq] at h
 have h2 : t < l.length → endB l[t]! = true := fun ht => by simpa [ht] using h
 refine ⟨skipAt_out l t h2, fun ht e => ?_⟩
 have := h2 ht
 rw [getElem!_pos l t ht, e] at this
 cases this
end
section
theorem inf5 : (Tryz.prog.info? 5).map (fun i => (i.zero, i.size, i.bytes)) = some (some (.int .u8 0), 1, 1) := by kernel_rfl
/-- what the reference hands back -/
structure NR where
 k : Int
 n : Int
 s : List UInt8
 at' : Int
 e : Int
abbrev NR.tok (r : NR) : Value := .agg #[.int .i64 r.k, .int .i64 r.n, .string (bs r.s)]
abbrev NR.val (r : NR) : Value := .tuple #[r.tok, .int .i64 r.at', .int .i64 r.e]
def nrOf (l : List UInt8) : TokE → NR
 | .ok (t, r) => ⟨t.kind, t.n, t.text, (l.length - r.length : Nat), 0⟩
 | .error k => ⟨0, 0, [], 0, k⟩
theorem ret_val {a b : Value} (h : a = b) : Ending.returned a = .returned b := by rw [h]
/-- a string in brackets as the reference hands it back -/
def StrOk (w : World) (B : Nat) (l : List UInt8) (o : Option (List UInt8 × List UInt8)) (v : Value) (at' err : Int) : Prop :=
 match o with
 | none => err = 14
 | some (s, r) => err = 0 ∧ Own 5 B w v (byteVals s) ∧ s.length ≤ l.length ∧ ∃ k : Nat, at' = k ∧ k ≤ l.length ∧ r = l.drop k
def hexI (h : Option Nat) : Int := match h with | none => -1 | some x => x
theorem hexS_cons (h : Option Nat) (o : List UInt8) (l : List UInt8) (t : Nat) (ht : t < l.length) : hexS h o (l.drop t) =
  if blankB l[t] then hexS h o (l.drop (t + 1))
  else if l[t] = 62 then some (match h with | none => o | some x => o ++ [ch (x * 16 : Nat)], l.drop (t + 1))
  else if 15 < hexN l[t] then none else match h with
   | none => hexS (some (hexN l[t])) o (l.drop (t + 1))
   | some x => hexS none (o ++ [ch (x * 16 + hexN l[t] : Nat)]) (l.drop (t + 1)) := by
 rw [List.drop_eq_getElem_cons ht]
 simp only [hexS]
 split
 ·
  rfl
 ·
  split
  ·
   cases h <;> rfl
  ·
   unfold hexD
   by_cases h16 : hexN l[t] < 16
   ·
    rw [if_pos h16, if_neg oO] <;> cases h <;> rfl
   ·
    rw [if_neg h16, if_pos oO]
theorem ch_val (x : Int) (h0 : 0 ≤ x) (h : x < 256) : ((ch x).toNat : Int) = x := by
 unfold ch
 rw [UInt8.toNat_ofNat']; omega
theorem bF {b : Bool} (h : b = false) : ¬ b = true := by rw [h]; simp
end
section
/-- a line feed stands there -/
def lfB (l : List UInt8) (t : Nat) : Bool := decide (t < l.length) && decide (((l[t]!).toNat : Int) = 10)
theorem lfB_t {l : List UInt8} {t : Nat} (h : lfB l t = true) : t < l.length ∧ dropLF (l.drop t) = l.drop (t + 1) := by
 unfold lfB at h
 simp only [Bool.and_eq_true, decide_eq_true_eq] at h
 obtain ⟨h1, h2⟩ := h
 rw [getElem!_pos l t h1] at h2
 have h3 : l[t] = 10 := u8_eq h2
 refine ⟨h1, ?_⟩
 rw [List.drop_eq_getElem_cons h1]
 simp [dropLF, h3]
theorem lfB_f {l : List UInt8} {t : Nat} (h : lfB l t = false) : dropLF (l.drop t) = l.drop t := by
 by_cases h1 : t < l.length
 ·
  unfold lfB at h
  rw [decide_eq_true h1, Bool.true_and, getElem!_pos l t h1] at h
  have h3 : l[t] ≠ 10 := u8_ne (dF h)
  rw [List.drop_eq_getElem_cons h1]
  simp [dropLF, h3]
 ·
  rw [List.drop_eq_nil_of_le oO]; rfl
/-- one more octal digit -/
def octT (l : List UInt8) (k t : Nat) : Bool := decide (k < 2) && (decide (t < l.length) && (decide (48 ≤ ((l[t]!).toNat : Int)) && decide (((l[t]!).toNat : Int) ≤ 55)))
theorem octT_t {l : List UInt8} {k t : Nat} (h : octT l k t = true) : k < 2 ∧ ∃ ht : t < l.length, 48 ≤ (l[t]'ht).toNat ∧ (l[t]'ht).toNat ≤ 55 ∧ ∀ n, octS (2 - k) n (l.drop t) = octS (2 - (k + 1)) (8 * n + ((l[t]'ht).toNat - 48)) (l.drop (t + 1)) := by
 unfold octT at h
 simp only [Bool.and_eq_true, decide_eq_true_eq] at h
 obtain ⟨h0, h1, h2, h3⟩ := h
 rw [getElem!_pos l t h1] at h2 h3
 refine ⟨h0, h1, by omega, by omega, fun n => ?_⟩
 rw [List.drop_eq_getElem_cons h1, show 2 - k = (2 - (k + 1)) + 1 by omega]
 have : octB l[t] = true := by simp [octB]; omega
 simp only [octS]
 rw [if_pos this]
theorem octT_f {l : List UInt8} {k t : Nat} (h : octT l k t = false) (n : Nat) : octS (2 - k) n (l.drop t) = (n, l.drop t) := by
  by_cases h0 : k < 2
  · rw [show 2 - k = (2 - (k + 1)) + 1 by omega]
    by_cases h1 : t < l.length
    · rw [List.drop_eq_getElem_cons h1]
      unfold octT at h
      rw [decide_eq_true h0, Bool.true_and, decide_eq_true h1, Bool.true_and, getElem!_pos l t h1] at h
      have : octB l[t] = false := by
        unfold octB
        rw [← h]; congr 1 <;> exact decide_eq_decide.2 oO
      simp only [octS]
      rw [if_neg (by rw [this]; simp)]
    · rw [List.drop_eq_nil_of_le oO]; rfl
  · rw [show 2 - k = 0 by omega]; rfl
theorem roundS_at (d : Nat) (o l : List UInt8) (s : Nat) (h : s < l.length) : roundS d o (l.drop s) =
  if l[s] = 40 then roundS (d + 1) (o ++ [l[s]]) (l.drop (s + 1))
  else if l[s] = 41 then (if d = 1 then some (o, l.drop (s + 1)) else roundS (d - 1) (o ++ [l[s]]) (l.drop (s + 1)))
  else if l[s] = 92 then
   match l.drop (s + 1) with
   | [] => none
   | e :: r' => roundS d (o ++ (escS e r').1) (escS e r').2
  else if l[s] = 13 then roundS d (o ++ [10]) (dropLF (l.drop (s + 1)))
  else roundS d (o ++ [l[s]]) (l.drop (s + 1)) := by
 rw [List.drop_eq_getElem_cons h]
 exact roundS.eq_def d o (l[s] :: l.drop (s + 1))
theorem esc110 (r : List UInt8) : escS 110 r = ([10], r) := rfl
theorem esc114 (r : List UInt8) : escS 114 r = ([13], r) := rfl
theorem esc116 (r : List UInt8) : escS 116 r = ([9], r) := rfl
theorem esc98 (r : List UInt8) : escS 98 r = ([8], r) := rfl
theorem esc102 (r : List UInt8) : escS 102 r = ([12], r) := rfl
theorem esc10 (r : List UInt8) : escS 10 r = ([], r) := rfl
theorem esc13 (r : List UInt8) : escS 13 r = ([], dropLF r) := rfl
theorem esc_oct {y : UInt8} (r : List UInt8) (h1 : 48 ≤ (y.toNat : Int)) (h2 : (y.toNat : Int) ≤ 55) : escS y r = ([ch ((octS 2 (y.toNat - 48) r).1 % 256 : Nat)], (octS 2 (y.toNat - 48) r).2) := by
 have ne : ∀ c : UInt8, (c.toNat < 48 ∨ 55 < c.toNat) → y ≠ c := fun c hc e => by subst e; omega
 unfold escS
 rw [if_neg (ne 110 dD), if_neg (ne 114 dD), if_neg (ne 116 dD), if_neg (ne 98 dD), if_neg (ne 102 dD), if_neg (ne 10 dD), if_neg (ne 13 dD),
  if_pos (by simp only [octB, Bool.and_eq_true, decide_eq_true_eq]; omega)]
theorem esc_else {y : UInt8} (r : List UInt8) (h1 : ¬ (y.toNat : Int) = 110) (h2 : ¬ (y.toNat : Int) = 114) (h3 : ¬ (y.toNat : Int) = 116) (h4 : ¬ (y.toNat : Int) = 98) (h5 : ¬ (y.toNat : Int) = 102) (h6 : ¬ (y.toNat : Int) = 10) (h7 : ¬ (y.toNat : Int) = 13)
  (h8 : ¬ (48 ≤ (y.toNat : Int) ∧ (y.toNat : Int) ≤ 55)) : escS y r = ([y], r) := by
 unfold escS
 rw [if_neg (u8_ne (d := 110) h1), if_neg (u8_ne (d := 114) h2), if_neg (u8_ne (d := 116) h3), if_neg (u8_ne (d := 98) h4), if_neg (u8_ne (d := 102) h5), if_neg (u8_ne (d := 10) h6), if_neg (u8_ne (d := 13) h7),
  if_neg (by simp only [octB, Bool.and_eq_true, decide_eq_true_eq]; omega)]
end
section
/-- the token from its first byte on -/
def tokC (c : UInt8) (r : List UInt8) : TokE :=
 if c = 40 then textS (roundS 1 [] r)
 else if c = 41 then .error 14
 else if c = 60 ∨ c = 62 then angleS c r
 else if c = 123 then .ok (⟨7, 0, []⟩, r)
 else if c = 125 then .ok (⟨8, 0, []⟩, r)
 else if c = 91 ∨ c = 93 then .ok (⟨3, 0, [c]⟩, r)
 else if c = 47 then slashS r
 else wordS (c :: r)
theorem tokS_end {l : List UInt8} {n s : Nat} (h : l.drop s = skipS false (l.drop n)) (hs : l.length ≤ s) : tokS (l.drop n) = .ok (⟨0, 0, []⟩, []) := by
 unfold tokS
 rw [← h, List.drop_eq_nil_of_le hs]
theorem tokS_at {l : List UInt8} {n s : Nat} (h : l.drop s = skipS false (l.drop n)) (hs : s < l.length) : tokS (l.drop n) = tokC l[s] (l.drop (s + 1)) := by
 unfold tokS
 rw [← h, List.drop_eq_getElem_cons hs]; rfl
theorem angle_eq {l : List UInt8} {s : Nat} {c d : UInt8} (hc : c ≠ 0) (hd : d = (l[s]?).getD 0) : angleS c (l.drop s) = if d = c then .ok (⟨3, 0, [c, c]⟩, l.drop (s + 1)) else if c = 60 then textS (hexS none [] (l.drop s)) else .error 14 := by
  by_cases h : s < l.length
  · rw [List.drop_eq_getElem_cons h]
    rw [List.getElem?_eq_getElem h] at hd
    obtain rfl : d = l[s] := hd
    rfl
  · rw [List.drop_eq_nil_of_le oO]
    rw [List.getElem?_eq_none oO] at hd
    obtain rfl : d = 0 := hd
    rw [if_neg (fun e => hc e.symm)]; rfl
theorem slash_eq {l : List UInt8} {s : Nat} {d : UInt8} (hd : d = (l[s]?).getD 0) : slashS (l.drop s) = if d = 47 then nameS 5 (l.drop (s + 1)) else nameS 4 (l.drop s) := by
  by_cases h : s < l.length
  · rw [List.drop_eq_getElem_cons h]
    rw [List.getElem?_eq_getElem h] at hd
    obtain rfl : d = l[s] := hd
    rfl
  · rw [List.drop_eq_nil_of_le oO]
    rw [List.getElem?_eq_none oO] at hd
    obtain rfl : d = 0 := hd
    rw [if_neg dD]; rfl
theorem tokC_word {c : UInt8} (r : List UInt8) (h1 : ¬ (c.toNat : Int) = 40) (h2 : ¬ (c.toNat : Int) = 41) (h3 : ¬ (c.toNat : Int) = 60) (h4 : ¬ (c.toNat : Int) = 62) (h5 : ¬ (c.toNat : Int) = 123) (h6 : ¬ (c.toNat : Int) = 125) (h7 : ¬ (c.toNat : Int) = 91)
  (h8 : ¬ (c.toNat : Int) = 93) (h9 : ¬ (c.toNat : Int) = 47) : tokC c r = wordS (c :: r) := by
 unfold tokC
 rw [if_neg (u8_ne (d := 40) h1), if_neg (u8_ne (d := 41) h2), if_neg (not_or.2 ⟨u8_ne (d := 60) h3, u8_ne (d := 62) h4⟩), if_neg (u8_ne (d := 123) h5), if_neg (u8_ne (d := 125) h6), if_neg (not_or.2 ⟨u8_ne (d := 91) h7, u8_ne (d := 93) h8⟩), if_neg (u8_ne (d := 47) h9)]
theorem word_take (l : List UInt8) (s : Nat) : (l.drop s).take (wordAt l s - s) = (l.drop s).takeWhile regB := by
 unfold wordAt
 rw [Nat.add_sub_cancel_left]
 conv => lhs; arg 2; rw [← List.takeWhile_append_dropWhile (p := regB) (l := l.drop s)]
 rw [List.take_left']; rfl
theorem word_drop (l : List UInt8) (s : Nat) : (l.drop s).dropWhile regB = l.drop (wordAt l s) := by
 unfold wordAt
 rw [← List.drop_drop]
 conv => rhs; arg 2; rw [← List.takeWhile_append_dropWhile (p := regB) (l := l.drop s)]
 rw [List.drop_left']; rfl
theorem nrOf_drop (l : List UInt8) (t : TokV) (k : Nat) (hk : k ≤ l.length) : nrOf l (.ok (t, l.drop k)) = ⟨t.kind, t.n, t.text, k, 0⟩ := by
 simp only [nrOf, List.length_drop]
 rw [show l.length - (l.length - k) = k by omega]
theorem StrOk.cases {w : World} {B : Nat} {l : List UInt8} {o : Option (List UInt8 × List UInt8)} {v : Value} {at' err : Int} (h : StrOk w B l o v at' err) :
  (o = none ∧ err = 14) ∨ ∃ (s : List UInt8) (k : Nat) (q : Option Addr) (cq : Nat), o = some (s, l.drop k) ∧ err = 0 ∧ at' = k ∧ k ≤ l.length ∧ s.length ≤ l.length ∧ v = .slice q s.length cq ∧ BytesAt w q s := by
 unfold StrOk at h
 split at h
 ·
  exact Or.inl ⟨rfl, h⟩
 ·
  next s r =>
  obtain ⟨he, ho, hl, k, hk, hkl, rfl⟩ := h
  obtain ⟨q, cq, hv, hb, -⟩ := ho.bytes
  exact Or.inr ⟨s, k, q, cq, rfl, he, hk, hkl, hl, hv, hb⟩
theorem tokC40 (r : List UInt8) : tokC 40 r = textS (roundS 1 [] r) := rfl
theorem tokC41 (r : List UInt8) : tokC 41 r = .error 14 := rfl
theorem tokC60 (r : List UInt8) : tokC 60 r = angleS 60 r := rfl
theorem tokC62 (r : List UInt8) : tokC 62 r = angleS 62 r := rfl
theorem tokC123 (r : List UInt8) : tokC 123 r = .ok (⟨7, 0, []⟩, r) := rfl
theorem tokC125 (r : List UInt8) : tokC 125 r = .ok (⟨8, 0, []⟩, r) := rfl
theorem tokC91 (r : List UInt8) : tokC 91 r = .ok (⟨3, 0, [91]⟩, r) := rfl
theorem tokC93 (r : List UInt8) : tokC 93 r = .ok (⟨3, 0, [93]⟩, r) := rfl
theorem tokC47 (r : List UInt8) : tokC 47 r = slashS r := rfl
/-- the reference's next token from place a on -/
def nextR (l : List UInt8) (a : Int) : NR := if a < 0 ∨ (l.length : Int) < a then ⟨0, 0, [], 0, 21⟩ else nrOf l (tokS (l.drop a.toNat))
end
end Go.Proofs.YthljhjcndpnleaaGreatDoor
