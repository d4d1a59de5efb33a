/-
  What the claim leans on, part 1: pruned and joined by my own tool out of the texts that stand in wip/ as templates.
-/
import Derived.WalkKit
import Derived.WalkSpells
import Derived.WalkLawsBesides
import Derived.Test.YtopnfojdmeageaaGreatDoorRows
import Derived.Deep.QuietTactic
import Derived.StillTail
import Derived.Laws.BytesString
import Derived.Laws.Slices
import Derived.Carry
import Derived.ChangeSlices
import Derived.Lib.ConvBytes
import Derived.Laws.AppendOwn
import Derived.Laws.CopyRow
import Derived.Deep.MidRow
import Derived.Lib.SliceRun
import Derived.Lib.AppendZerosOnto
import Derived.Laws.OwnMore
import Derived.Stop.BytesEq
import Derived.OrdersHeld
import Derived.Lib.FrozenHead
import Derived.Shelf.Strings.Builder1
import Derived.Shelf.Strings.Builder2
import Derived.Shelf.Strings.Trim
import Derived.Shelf.Small.Utf8
import Derived.Shelf.Small.Strs
import Derived.Shelf.Strings.BuilderF
import Derived.Shelf.Strings.BuilderK
import Derived.Shelf.Strings.Builder2Cap
import Derived.Shelf.Strconv.Itoa0
import Derived.Shelf.Strconv.Itoa1
import Derived.Shelf.LaysM
import Derived.Shelf.Strconv.Itoa2
import Derived.Shelf.Strconv.Itoa3
import Derived.Shelf.Strings.Search1
import Derived.Shelf.Strings.Search2
import Derived.Shelf.Strings.Cut
import Derived.Shelf.Strings.Shaped
import Derived.Shelf.Strings.Prefix
import Derived.Shelf.Unicode.Latin
import Derived.Shelf.Unicode.Decode
import Derived.Shelf.Strings.Runes
import Derived.Shelf.Strings.IndexAny
import Derived.Shelf.Strings.AsciiSet
import Derived.Shelf.Strings.IndexAnyAll
import Derived.Shelf.Bits.Mul64
import Derived.Shelf.Strings.Repeat
import Derived.Shelf.Unicode.DecodeSlow
import Derived.Shelf.Unicode.DecodeAny
import Derived.Shelf.Unicode.DecodeLast
import Derived.Shelf.Unicode.CaseLookup
import Derived.Shelf.Unicode.CaseConvert
import Derived.Shelf.Unicode.CaseTo
import Derived.Shelf.Unicode.CaseLaid
import Derived.Shelf.Strings.BuilderCap
import Derived.Test.YtopnfojdmeageaaGreatDoorProg
import Derived.Shelf.Strings.SlTrimAscii
import Derived.BigQuiet
import Derived.Deep.DeepCutAuto
import Derived.Lib.AppendStr
import Derived.Test.YtopnfojdmeageaaGreatDoorCards
import Derived.Test.YtopnfojdmeageaaGreatDoorTie
import Derived.ProofKit
import Derived.OpenShut
import Derived.Deep.DeepHandedRow
import Derived.Lib.LaidTab
import Derived.Lib.LaidCaseMet
import Derived.PinnedBridge
import Derived.Deep.DeepWitnessRowRef
import Derived.Stop.LaidErr
namespace Go.Proofs.YtopnfojdmeageaaGreatDoor
open Go.RowKit
open Go.Proofs.Tryz
section
theorem hid {p : Prop} (h : p) : Hid p := h
/-- a row of cells of one block, none of them frozen -/
def BRow (w : World) (b : Nat) (l : List Value) : Prop := ∀ j v, l[j]? = some v → w.cell? ⟨b, j, none⟩ = some v ∧ w.frozen? ⟨b, j, none⟩ = false
theorem BRow.set {w : World} {b : Nat} {l : List Value} (h : BRow w b l) (i : Nat) (v : Value) (hi : i < l.length) : BRow (w.setCell ⟨b, i, none⟩ v) b (l.set i v) := by
 intro j u hj
 rw [World.frozen?_setCell]
 by_cases e : i = j
 ·
  subst e
  rw [List.getElem?_set_self hi] at hj
  obtain rfl : v = u := by simpa using hj
  obtain ⟨h1, h2⟩ := h i l[i] (by simp [hi])
  exact ⟨World.cell?_setCell_same _ _ _ h1, h2⟩
 ·
  rw [List.getElem?_set_ne e] at hj
  obtain ⟨h1, h2⟩ := h j u hj
  rw [World.cell?_setCell_other _ _ _ _ (by intro h; simp at h)]
  exact ⟨h1, h2⟩
theorem BRow.below {w w' : World} {B b : Nat} {l : List Value} (h : BRow w b l) (hb : Below B w w') (hB : b < B) : BRow w' b l := by
 intro j u hj
 obtain ⟨h1, h2⟩ := h j u hj
 rw [hb.cell (p := ⟨b, j, none⟩) hB, hb.frozen (p := ⟨b, j, none⟩) hB]
 exact ⟨h1, h2⟩
/-- the cells of bytes -/
def byteVals (l : List UInt8) : List Value := l.map fun (c : UInt8) => Value.int .u8 (c.toNat : Int)
/-- one after the other -/
theorem btr {w w1 w2 : World} (h : Below w.heap.size w w1) (k : Below w1.heap.size w1 w2) : Below w.heap.size w w2 := h.trans (k.mono h.size)
theorem bdrewN (w : World) (q : Nat) : Below w.heap.size w (w.drewN q) := ⟨rfl, rfl, rfl, Nat.le_refl _, fun _ _ => rfl⟩
section
variable {P : Program}
theorem bytesRow_cell (w : World) (s : ByteArray) (cap : Nat) (e : TypeId) (hc : s.size ≤ cap) : BRow (w.drew.alloc (.cells (bytesRow s cap) e ((bytesRow s cap).size, (bytesRow s cap).size + 1))) w.heap.size (byteVals s.data.toList) := by
 intro j v hj
 have hj' : j < s.data.size := by
  rcases Nat.lt_or_ge j s.data.size with h | h
  ·
   exact h
  ·
   rw [List.getElem?_eq_none (by simpa [byteVals] using h)] at hj; cases hj
 have hsz : (bytesRow s cap).size = cap := by
  unfold bytesRow
  have e1 : s.data.size = s.size := rfl
  simp [e1]; omega
 constructor
 ·
  have h1 := World.cell?_alloc_mark w.drew (bytesRow s cap) e ((bytesRow s cap).size, (bytesRow s cap).size + 1) j
  have h2 := bytesRow_at s cap j hj'
  have e1 : w.drew.heap.size = w.heap.size := rfl
  rw [e1] at h1
  rw [h1, h2, ← hj]
  simp only [byteVals, List.getElem?_map, Array.getElem?_toList]
  rw [Array.getElem?_eq_getElem hj']; rfl
 ·
  have h1 := World.frozen?_alloc_mark w.drew (bytesRow s cap) e (bytesRow s cap).size ((bytesRow s cap).size + 1) j
  have e1 : w.drew.heap.size = w.heap.size := rfl
  rw [e1] at h1
  have e2 : s.data.size = s.size := rfl
  rw [h1, hsz]
  simp; omega
/-- []byte(s): a new row of bytes -/
theorem wpList_conv_bytes {ops : Array Oper} {rest : List Oper} {o : Oper} {a : Act} {Q : Exit → Act → World → Prop} {w : World} (hg : o.guard = none) (x : Operand) (ts tb te : TypeId) (hop : o.op = .convert ts tb x)
  (h1 : P.underlying ts = some .string) (h2 : P.underlying tb = some (.slice te)) (h3 : P.underlying te = some (.int .u8)) (s : ByteArray) (hx : a.eval x = .string s)
  (h : ∀ cap w', s.size ≤ cap → BRow w' w.heap.size (byteVals s.data.toList) → w.grownBy w' none → w'.heap.size = w.heap.size + 1 →
   wpList P ops Q rest (a.put o.dst (.slice (some ⟨w.heap.size, 0, none⟩) s.size cap)) w') : wpList P ops Q (o :: rest) a w := by
 refine wpList_plain hg fun K hK => ?_
 have hr := run_bytes_of_string (P := P) w ts tb te s h1 h2 h3
 unfold Oper.wp
 simp only [execOp, hop, hx, Sem.run_bind, hr, Result.andThen, Sem.run_pure, Oper.upon]
 refine hK _ _ (h _ _ (grownCap_ge w s.size 0 te) ?_ ?_ ?_)
 ·
  exact bytesRow_cell w s _ te (grownCap_ge w s.size 0 te)
 ·
  exact ⟨rfl, rfl, rfl, by simp, fun k hk _ => heap_alloc_old w.drew _ hk⟩
 ·
  simp
theorem below_of_grown {w w' : World} (h : w.grownBy w' none) : Below w.heap.size w w' :=
 (Below.refl _ _).grown h (Nat.le_refl _) (by intro k hk; cases hk)
end
end
section
def fitsB (n : Int) : Bool := decide (-2147483648 ≤ n) && decide (n ≤ 2147483647)
theorem fitsB_yes {n : Int} (h : -2147483648 ≤ n) (h' : n ≤ 2147483647) : fitsB n = true := by simp [fitsB, h, h']
theorem fitsB_lo {n : Int} (h : n < -2147483648) : fitsB n = false := by
 have : ¬ (-2147483648 ≤ n) := by omega
 simp [fitsB, this]
theorem fitsB_hi {n : Int} (h : 2147483647 < n) : fitsB n = false := by
 have : ¬ (n ≤ 2147483647) := by omega
 simp [fitsB, this]
set_option maxHeartbeats 400000 in
theorem fix_Fits (n : Int) (w : World) :
  Calls Tryz.prog 71 #[.int .i64 n] w fun e w' => e = .returned (.bool (fitsB n)) ∧ w = w' := by
 go_enter func71, ntmps71
 go_wp2
 ·
  go_ret
  have h : -2147483648 ≤ n := by assumption
  exact ⟨by simp [fitsB, h], rfl⟩
 ·
  go_ret
  have h : n < -2147483648 := by assumption
  exact ⟨by simp [fitsB_lo h], rfl⟩
/-- a byte, of a number -/
def ch (n : Int) : UInt8 := UInt8.ofNat n.toNat
def bs (l : List UInt8) : ByteArray := ⟨l.toArray⟩
theorem bs_append (a b : List UInt8) : bs a ++ bs b = bs (a ++ b) := by
 apply ByteArray.ext
 simp [bs]
theorem bs_size (l : List UInt8) : (bs l).size = l.length := by simp [bs, ByteArray.size]
/-- the digits of a number -/
def digitsL (n : Nat) : List UInt8 :=
 if n < 10 then [ch (48 + n)] else digitsL (n / 10) ++ [ch (48 + (n % 10 : Nat))]
termination_by n
theorem digitsL_ge (n : Nat) (h : 10 ≤ n) : digitsL n = digitsL (n / 10) ++ [ch (48 + (n % 10 : Nat))] := by rw [digitsL, if_neg (by omega)]
theorem encode_digit (n : Int) (h : 0 ≤ n) (h' : n < 10) : Utf8.encode (48 + n) = bs [ch (48 + n)] := by
 obtain ⟨k, rfl⟩ := Int.eq_ofNat_of_zero_le h
 have : k < 10 := by omega
 match k, this with
 | 0, _ => rfl
 | 1, _ => rfl
 | 2, _ => rfl
 | 3, _ => rfl
 | 4, _ => rfl
 | 5, _ => rfl
 | 6, _ => rfl
 | 7, _ => rfl
 | 8, _ => rfl
 | 9, _ => rfl
theorem digitsL_small (n : Int) (h : 0 ≤ n) (h' : n < 10) : bs (digitsL n.toNat) = Utf8.encode (48 + n) := by
 rw [encode_digit n h h', digitsL, if_pos (by omega), Int.toNat_of_nonneg h]
theorem digitsL_big (n : Int) (h' : 10 ≤ n) : bs (digitsL (n / 10).toNat) ++ Utf8.encode (48 + n % 10) = bs (digitsL n.toNat) := by
 rw [encode_digit _ (by omega) (by omega), bs_append, digitsL_ge n.toNat (by omega)]
 have e1 : (n / 10).toNat = n.toNat / 10 := by omega
 have e2 : n % 10 = ((n.toNat % 10 : Nat) : Int) := by omega
 rw [e1, e2]
theorem digitsL_len (k : Nat) : ∀ n : Nat, n < 10 ^ (k + 1) → (digitsL n).length ≤ k + 1 := by
  induction k with
  | zero => intro n h; rw [digitsL, if_pos (by simpa using h)]; simp
  | succ k ih =>
    intro n h
    rw [digitsL]
    split
    · simp
    · have := ih (n / 10) (by rw [Nat.pow_succ] at h; omega)
      simp; omega
theorem digitsL_size (n : Nat) (h : n < 18446744073709551616) : (bs (digitsL n)).size ≤ 20 := by
 rw [bs_size]; exact digitsL_len 19 n (Nat.lt_trans h (by decide))
theorem encode_size (n : Int) : (Utf8.encode n).size ≤ 4 := encode_size_le n
set_option maxHeartbeats 400000 in
theorem dec_digits (k : Nat) : ∀ (n : Int) (w : World), 0 ≤ n → n ≤ k → n ≤ 4294967296 →
    Calls Tryz.prog 75 #[.int .i64 n] w fun e w' => e = .returned (.string (bs (digitsL n.toNat))) ∧ w = w' := by
  induction k with
  | zero =>
    intro n w h0 hk hb
    have hn : n < 10 := by omega
    go_enter func75, ntmps75
    go_wp2_with fail
    go_ret
    exact ⟨by rw [digitsL_small n h0 hn]; rfl, rfl⟩
  | succ k ih =>
    intro n w h0 hk hb
    by_cases hn : n < 10
    · go_enter func75, ntmps75
      go_wp2_with fail
      go_ret
      exact ⟨by rw [digitsL_small n h0 hn]; rfl, rfl⟩
    · have hn' : 10 ≤ n := by omega
      have hs1 := digitsL_size (n / 10).toNat (by omega)
      have hs2 := encode_size (48 + n % 10)
      go_enter func75, ntmps75
      go_wp2_with (go_at_call 75; refine (ih (n / 10) _ (by omega) (by omega) (by omega)).mono ?_; rintro e w' ⟨rfl, rfl⟩)
      go_ret
      exact ⟨by rw [← digitsL_big n hn']; rfl, rfl⟩
/-- a whole number's digits, with its sign -/
def decL (n : Int) : List UInt8 := if n < 0 then 45 :: digitsL n.natAbs else digitsL n.natAbs
end
section
/-- what is known of a frame: slots and values, the latest first -/
abbrev Fr := List (Nat × Value)
def look : Fr → Nat → Option Value
 | [], _ => none
 | (j, v) :: r, i => bif Nat.beq j i then some v else look r i
def evo (f : Fr) : Operand → Option Value
 | .tmp t => look f t
 | .const v => some v
 | .global g => some (.pointer (some ⟨g, 0, none⟩))
 | .func k => some (.func (.func k) #[] #[])
def Sub : Fr → Fr → Prop
 | [], _ => True
 | (j, v) :: g, f => look f j = some v ∧ Sub g f
theorem Sub.look {g f : Fr} (h : Sub g f) {i : Nat} {v : Value} (hv : look g i = some v) : look f i = some v := by
 induction g with
 | nil => cases hv
 | cons p g ih =>
  obtain ⟨j, u⟩ := p
  unfold Go.Proofs.YtopnfojdmeageaaGreatDoor.look at hv
  cases hb : Nat.beq j i with
  | true =>
   rw [hb] at hv
   obtain rfl : j = i := Nat.eq_of_beq_eq_true hb
   rw [h.1]; exact hv
  | false => rw [hb] at hv; exact ih h.2 hv
/-- a frame's shape: its slots, its deferred calls -/
structure Sh where
 n : Nat
 D : List Deferred
/-- a frame of this shape of which this is known -/
def Rep (n : Sh) (f : Fr) (a : Act) : Prop := a.defers = n.D ∧ a.tmps.size = n.n ∧ ∀ i v, look f i = some v → a.tmps.getD i undef = v
theorem Rep.sub {n : Sh} {f g : Fr} {a : Act} (h : Rep n f a) (hs : Sub g f) : Rep n g a := ⟨h.1, h.2.1, fun i v hv => h.2.2 i v (hs.look hv)⟩
theorem Rep.put {n : Sh} {f : Fr} {a : Act} (h : Rep n f a) {d : Nat} (hd : Nat.blt d n.n = true) (v : Value) : Rep n ((d, v) :: f) (a.put (some d) v) := by
 have hdn : d < n.n := by simpa [Nat.blt_eq] using hd
 refine ⟨h.1, by simp [Act.put, h.2.1], fun i u hu => ?_⟩
 show (a.tmps.setIfInBounds d v).getD i undef = u
 unfold look at hu
 cases hb : Nat.beq d i with
 | true =>
  obtain rfl : d = i := Nat.eq_of_beq_eq_true hb
  simp only [hb, cond_true, Option.some.injEq] at hu
  subst hu
  simp [Array.getD, h.2.1, hdn]
 | false =>
  simp only [hb, cond_false] at hu
  have hne : d ≠ i := fun e => by rw [e, Nat.beq_refl] at hb; cases hb
  have := h.2.2 i u hu
  simp only [Array.getD_eq_getD_getElem?] at this ⊢
  rw [Array.getElem?_setIfInBounds_ne hne]; exact this
/-- an evaluation of operands that agrees with what is known -/
def Agr (f : Fr) (ρ : Operand → Value) : Prop := ∀ x v, evo f x = some v → ρ x = v
theorem Rep.agr {n : Sh} {f : Fr} {a : Act} (h : Rep n f a) : Agr f a.eval := by
 intro x v hx
 cases x with
 | tmp t => exact h.2.2 t v hx
 | const u => exact Option.some.inj hx
 | global g => exact Option.some.inj hx
 | func k => exact Option.some.inj hx
section
variable {P : Program} {n : Sh}
def lift (n : Sh) (Q : Exit → Fr → World → Prop) : Exit → Act → World → Prop := fun e a w => ∃ f, Rep n f a ∧ Q e f w
def W (P : Program) (n : Sh) (c : Code) (Q : Exit → Fr → World → Prop) (f : Fr) (w : World) : Prop := ∀ a, Rep n f a → c.wp P (lift n Q) a w
def WL (P : Program) (n : Sh) (ops : Array Oper) (Q : Exit → Fr → World → Prop) (l : List Oper) (f : Fr) (w : World) : Prop := ∀ a, Rep n f a → wpList P ops (lift n Q) l a w
/-- what comes next -/
def nx (K : Fr → World → Prop) (Q : Exit → Fr → World → Prop) : Exit → Fr → World → Prop
 | .normal, f, w => K f w
 | e, f, w => Q e f w
def inb (id : Nat) (Q : Exit → Fr → World → Prop) : Exit → Fr → World → Prop
 | .exit i, f, w => bif Nat.beq i id then Q .normal f w else Q (.exit i) f w
 | e, f, w => Q e f w
theorem W.weaken {c : Code} {Q : Exit → Fr → World → Prop} {f : Fr} {w : World} (g : Fr) (hs : Sub g f) (h : W P n c Q g w) : W P n c Q f w :=
 fun a ha => h a (ha.sub hs)
theorem W.mono {c : Code} {Q Q' : Exit → Fr → World → Prop} {f : Fr} {w : World} (h : W P n c Q f w) (hq : ∀ e f w, Q e f w → Q' e f w) : W P n c Q' f w :=
 fun a ha => wp_mono (h a ha) fun _ _ _ ⟨f', hr, hQ⟩ => ⟨f', hr, hq _ _ _ hQ⟩
theorem W.seq {x y : Code} {Q : Exit → Fr → World → Prop} {f : Fr} {w : World} (h : W P n x (nx (fun f w => W P n y Q f w) Q) f w) : W P n (.seq x y) Q f w := by
 intro a ha
 refine wp_seq (wp_mono (h a ha) ?_)
 rintro e a' w' ⟨f', hr, hQ⟩
 cases e with
 | normal => exact hQ a' hr
 | _ => exact ⟨f', hr, hQ⟩
theorem dT {p : Prop} [Decidable p] (h : decide p = true) : p := of_decide_eq_true h
theorem dF {p : Prop} [Decidable p] (h : decide p = false) : ¬p := of_decide_eq_false h
theorem oO {p : Prop} (h : p := by omega) : p := h
theorem aS {p : Prop} (h : p := by assumption) : p := h
theorem dD {p : Prop} (h : p := by decide) : p := h
theorem kR {p : Prop} (h : p := by kernel_rfl) : p := h
theorem oL {p : Prop} (h : p := by simp only [List.length_append, List.length_cons, List.length_nil, List.length_drop] at *; omega) : p := h
theorem oD {p : Prop} (h : p := by first | decide | exact Nat.le_of_ble_eq_true rfl) : p := h
theorem oM {p : Prop} (h : p := by ((try simp only) <;> omega)) : p := h
/-- a cut: what stands behind is walked once, from what the relation tells -/
theorem W.cut {α : Type} (R : α → Fr) (S : α → World → Prop) {x y : Code} {Q : Exit → Fr → World → Prop} {f : Fr} {w : World}
  (h1 : W P n x (nx (fun f' w' => ∃ t, Sub (R t) f' ∧ S t w') Q) f w) (h2 : ∀ t w', S t w' → W P n y Q (R t) w') : W P n (.seq x y) Q f w := by
 refine W.seq (h1.mono ?_)
 intro e f' w' h
 cases e with
 | normal => obtain ⟨t, hs, ht⟩ := h; exact (h2 t w' ht).weaken _ hs
 | _ => exact h
theorem W.skip {Q : Exit → Fr → World → Prop} {f : Fr} {w : World} (h : Q .normal f w) : W P n .skip Q f w := fun _ ha => wp_skip ⟨f, ha, h⟩
theorem W.exit {Q : Exit → Fr → World → Prop} {f : Fr} {w : World} {id : Nat} (h : Q (.exit id) f w) : W P n (.exit id) Q f w := fun _ ha => wp_exit ⟨f, ha, h⟩
theorem W.ret {Q : Exit → Fr → World → Prop} {f : Fr} {w : World} (h : Q .ret f w) : W P n .ret Q f w := fun _ ha => wp_ret ⟨f, ha, h⟩
theorem W.block {Q : Exit → Fr → World → Prop} {f : Fr} {w : World} {id : Nat} {c : Code} (h : W P n c (inb id Q) f w) : W P n (.block id c) Q f w := by
 intro a ha
 refine wp_block (wp_mono (h a ha) ?_)
 rintro e a' w' ⟨f', hr, hQ⟩
 cases e with
 | exit i =>
  simp only [Exit.inBlock]
  by_cases hi : i = id
  ·
   subst hi
   rw [if_pos rfl]
   simp only [inb, Nat.beq_refl, cond_true] at hQ
   exact ⟨f', hr, hQ⟩
  ·
   rw [if_neg hi]
   have hb : Nat.beq i id = false := by
    cases h : Nat.beq i id with
    | false => rfl
    | true => exact absurd (Nat.eq_of_beq_eq_true h) hi
   simp only [inb, hb, cond_false] at hQ
   exact ⟨f', hr, hQ⟩
 | _ => exact ⟨f', hr, hQ⟩
theorem W.cond {Q : Exit → Fr → World → Prop} {f : Fr} {w : World} {c : Operand} {x y : Code} {t : Bool} (hc : evo f c = some (.bool t))
  (ht : t = true → W P n x Q f w) (hf : t = false → W P n y Q f w) : W P n (.cond c x y) Q f w :=
 fun a ha => wp_cond_split (ha.agr _ _ hc) (fun h => ht h a ha) (fun h => hf h a ha)
theorem W.condT {Q : Exit → Fr → World → Prop} {f : Fr} {w : World} {c : Operand} {x y : Code} {t : Bool} (hc : evo f c = some (.bool t)) (e : t = true)
  (h : W P n x Q f w) : W P n (.cond c x y) Q f w := W.cond hc (fun _ => h) (fun h' => by rw [e] at h'; cases h')
theorem W.condF {Q : Exit → Fr → World → Prop} {f : Fr} {w : World} {c : Operand} {x y : Code} {t : Bool} (hc : evo f c = some (.bool t)) (e : t = false)
  (h : W P n y Q f w) : W P n (.cond c x y) Q f w := W.cond hc (fun h' => by rw [e] at h'; cases h') (fun _ => h)
theorem W.loop {α : Type} (R : α → Fr) (S : α → World → Prop) (m : α → Nat) (t : α) {c : Code} {Q : Exit → Fr → World → Prop} {f : Fr} {w : World}
  (h0 : Sub (R t) f) (h1 : S t w) (round : ∀ t w, S t w → W P n c (nx (fun f' w' => ∃ u, Sub (R u) f' ∧ S u w' ∧ m u < m t) Q) (R t) w) : W P n (.loop c) Q f w := by
 intro a ha b k cs
 have key : ∀ k' t a w, m t = k' → Rep n (R t) a → S t w → ∃ e a' w', lift n Q e a' w' ∧ Arrives P (lone (b.at a (.code c :: .inLoop c :: k)) cs w) b k cs e a' w' := by
  intro k'
  induction k' using Nat.strongRecOn with
  | _ k' ih =>
   intro t a w hm hr hS
   obtain ⟨e, a1, w1, ⟨f1, hr1, hq⟩, harr⟩ := round t w hS a hr b (.inLoop c :: k) cs
   cases e with
   | normal =>
    obtain ⟨u, hs, hSu, hlt⟩ := hq
    obtain ⟨e2, a2, w2, hq2, harr2⟩ := ih (m u) (hm ▸ hlt) u a1 w1 rfl (hr1.sub hs) hSu
    exact ⟨e2, a2, w2, hq2, .of_steps (Steps.trans harr (.one step_inLoop)) harr2⟩
   | exit id => exact ⟨_, a1, w1, ⟨f1, hr1, hq⟩, .pass (x := .inLoop c) rfl (fun _ _ => .inl (by simp)) harr⟩
   | goto l => exact ⟨_, a1, w1, ⟨f1, hr1, hq⟩, .pass (x := .inLoop c) rfl (fun _ _ => .inl (by simp)) harr⟩
   | ret => exact ⟨_, a1, w1, ⟨f1, hr1, hq⟩, .pass (x := .inLoop c) rfl (fun _ _ => .inl (by simp)) harr⟩
   | panic ch => exact ⟨_, a1, w1, ⟨f1, hr1, hq⟩, .pass (x := .inLoop c) rfl (fun _ _ => .inl (by simp)) harr⟩
   | outgrown => exact ⟨_, a1, w1, ⟨f1, hr1, hq⟩, .pass (x := .inLoop c) rfl (fun _ _ => .inl (by simp)) harr⟩
 obtain ⟨e, a', w', hq, harr⟩ := key _ t a w rfl (ha.sub h0) h1
 exact ⟨e, a', w', hq, .of_steps (.one step_loop) harr⟩
theorem W.reg {Q : Exit → Fr → World → Prop} {f : Fr} {w : World} {id : Nat} {l : List Oper} (h : WL P n l.toArray Q l f w) : W P n (.region id l.toArray false) Q f w :=
 fun a ha => wp_region_lit (h a ha)
theorem W.sr {P : Program} {n : Sh} {id : Nat} {l : List Oper} {y : Code} {Q : Exit → Fr → World → Prop} {f : Fr} {w : World} (h : WL P n l.toArray (nx (fun f w => W P n y Q f w) Q) l f w) : W P n (.seq (.region id l.toArray false) y) Q f w := W.seq (W.reg h)
def number : Nat → List Value → Fr
 | _, [] => []
 | k, v :: r => (k, v) :: number (k + 1) r
theorem number_look (l : List Value) : ∀ k i v, look (number k l) i = some v → ∃ j, i = k + j ∧ l[j]? = some v := by
 induction l with
 | nil => intro k i v h; cases h
 | cons u r ih =>
  intro k i v h
  unfold number look at h
  cases hb : Nat.beq k i with
  | true =>
   simp only [hb, cond_true, Option.some.injEq] at h
   exact ⟨0, (Nat.eq_of_beq_eq_true hb).symm, by simp [h]⟩
  | false =>
   simp only [hb, cond_false] at h
   obtain ⟨j, e, hj⟩ := ih (k + 1) i v h
   exact ⟨j + 1, by omega, by simpa using hj⟩
/-- what a function hands back -/
def ResOk (P : Program) (fn : Func) (f : Fr) (w : World) (v : Value) : Prop := ∀ tmps : Array Value, (∀ i u, look f i = some u → tmps.getD i undef = u) → (results fn tmps).run P w = .ok v w
def Post (P : Program) (fn : Func) (R : Ending → World → Prop) : Exit → Fr → World → Prop
 | .normal, f, w | .ret, f, w => ∃ v, ResOk P fn f w v ∧ R (.returned v) w
 | .panic chain, _, w => R (.panicked chain) w
 | .outgrown, _, w => R .outgrown w
 | _, _, _ => False
theorem W.enter {F : FuncId} {fn : Func} {c : Code} {args : Array Value} {w : World} {R : Ending → World → Prop} (hf : P.funcs[F]? = some fn) (hb : fn.body = some c)
  {k : Nat} (hn : fn.ntmps = k) (hl : args.size ≤ k) (h : W P ⟨k, []⟩ c (Post P fn R) (number 0 args.toList) w) : Calls P F args w R := by
 refine calls_of_wp hf hb (wp_mono (h _ ⟨rfl, by simp [hn]; omega, ?_⟩) ?_)
 ·
  intro i v hv
  obtain ⟨j, e, hj⟩ := number_look _ _ _ _ hv
  obtain rfl : i = j := by omega
  have hlt : i < args.size := by
   rcases Nat.lt_or_ge i args.size with h | h
   ·
    exact h
   ·
    rw [List.getElem?_eq_none (by simpa using h)] at hj; cases hj
  have hj' : args[i]? = some v := by rw [← Array.getElem?_toList]; exact hj
  simp only [Array.getD_eq_getD_getElem?]
  rw [Array.getElem?_append_left hlt, hj']; rfl
 ·
  rintro e a' w' ⟨f', hr, hQ⟩
  cases e with
  | normal => obtain ⟨v, h1, h2⟩ := hQ; exact ⟨hr.1, v, h1 _ hr.2.2, h2⟩
  | ret => obtain ⟨v, h1, h2⟩ := hQ; exact ⟨hr.1, v, h1 _ hr.2.2, h2⟩
  | panic ch => exact ⟨hr.1, hQ⟩
  | outgrown => exact hQ
  | exit i => exact hQ.elim
  | goto l => exact hQ.elim
theorem W.ret0 {fn : Func} {R : Ending → World → Prop} {f : Fr} {w : World} (hr : fn.results = #[]) (h : R (.returned (.tuple #[])) w) : Post P fn R .ret f w :=
 ⟨_, fun _ _ => results_none hr _ _ _, h⟩
theorem W.ret1 {fn : Func} {R : Ending → World → Prop} {f : Fr} {w : World} {t : Tmp} {v : Value} (hr : fn.results = #[.tmp t]) (hv : look f t = some v)
  (h : R (.returned v) w) : Post P fn R .ret f w :=
 ⟨v, fun tmps ht => by rw [results_tmp hr, ht _ _ hv], h⟩
theorem W.ret2 {fn : Func} {R : Ending → World → Prop} {f : Fr} {w : World} {t u : Tmp} {v x : Value} (hr : fn.results = #[.tmp t, .tmp u]) (hv : look f t = some v) (hx : look f u = some x)
  (h : R (.returned (.tuple #[v, x])) w) : Post P fn R .ret f w :=
 ⟨_, fun tmps ht => by rw [results_tmp2 hr, ht _ _ hv, ht _ _ hx], h⟩
theorem W.ret3 {fn : Func} {R : Ending → World → Prop} {f : Fr} {w : World} {t u s : Tmp} {v x y : Value} (hr : fn.results = #[.tmp t, .tmp u, .tmp s]) (hv : look f t = some v) (hx : look f u = some x) (hy : look f s = some y)
  (h : R (.returned (.tuple #[v, x, y])) w) : Post P fn R .ret f w :=
 ⟨_, fun tmps ht => by rw [show (results fn tmps).run P w = .ok (.tuple #[tmps.getD t undef, tmps.getD u undef, tmps.getD s undef]) w by simp [results, hr], ht _ _ hv, ht _ _ hx, ht _ _ hy], h⟩
/-- an operation that yields a value whatever the world -/
def Pure (P : Program) (op : Op) (f : Fr) (v : Value) : Prop := ∀ ρ, Agr f ρ → ∀ d ty pos aft g w, (execOp ρ ⟨d, op, ty, pos, aft, g⟩).run P w = .ok (.value v) w
theorem WL.nil {ops : Array Oper} {Q : Exit → Fr → World → Prop} {f : Fr} {w : World} (h : Q .normal f w) : WL P n ops Q [] f w := fun _ ha => wpList_nil ⟨f, ha, h⟩
/-- any operation by its run -/
theorem WL.run {ops : Array Oper} {Q : Exit → Fr → World → Prop} {f : Fr} {w w' : World} {rest : List Oper} {d ty : Nat} {pos : String} {aft : Array Edge} {op : Op} {v : Value} (hd : Nat.blt d n.n = true)
  (h : ∀ ρ, Agr f ρ → (execOp ρ ⟨some d, op, ty, pos, aft, none⟩).run P w = .ok (.value v) w') (k : WL P n ops Q rest ((d, v) :: f) w') : WL P n ops Q (⟨some d, op, ty, pos, aft, none⟩ :: rest) f w := by
 intro a ha
 refine wpList_plain rfl fun K hK => ?_
 unfold Oper.wp
 rw [h _ ha.agr]
 exact hK _ _ (k _ (ha.put hd v))
/-- an operation that yields nothing -/
theorem WL.act {ops : Array Oper} {Q : Exit → Fr → World → Prop} {f : Fr} {w w' : World} {rest : List Oper} {ty : Nat} {pos : String} {aft : Array Edge} {op : Op}
  (h : ∀ ρ, Agr f ρ → (execOp ρ ⟨none, op, ty, pos, aft, none⟩).run P w = .ok .skip w') (k : WL P n ops Q rest f w') : WL P n ops Q (⟨none, op, ty, pos, aft, none⟩ :: rest) f w := by
 intro a ha
 refine wpList_plain rfl fun K hK => ?_
 unfold Oper.wp
 rw [h _ ha.agr]
 exact hK _ _ (k _ ha)
theorem WL.p {ops : Array Oper} {Q : Exit → Fr → World → Prop} {f : Fr} {w : World} {rest : List Oper} {d ty : Nat} {pos : String} {aft : Array Edge} {op : Op} {v : Value}
  (h : Pure P op f v) (hd : Nat.blt d n.n = true) (k : WL P n ops Q rest ((d, v) :: f) w) : WL P n ops Q (⟨some d, op, ty, pos, aft, none⟩ :: rest) f w :=
 WL.run hd (fun ρ hρ => h ρ hρ _ _ _ _ _ _) k
/-- a guard: is the operation wanted -/
theorem WL.gd {ops : Array Oper} {Q : Exit → Fr → World → Prop} {f : Fr} {w : World} {rest : List Oper} {d ty : Nat} {pos : String} {aft : Array Edge} {op : Op} {j dj : Nat} {b t : Bool}
    (hj : (ops[j]?).bind (·.dst) = some dj) (ht : look f dj = some (.bool t)) (hd : Nat.blt d n.n = true)
    (hy : t = b → WL P n ops Q (⟨some d, op, ty, pos, aft, none⟩ :: rest) f w) (hn : t = !b → WL P n ops Q rest ((d, undef) :: f) w) :
    WL P n ops Q (⟨some d, op, ty, pos, aft, some (j, b)⟩ :: rest) f w := by
  intro a ha
  have hval := ha.2.2 _ _ ht
  have hyl : yielded ops a.tmps j = some t := by
    unfold yielded
    cases ho : ops[j]? with
    | none => rw [ho] at hj; cases hj
    | some o =>
      rw [ho] at hj
      simp only [Option.bind_some] at hj
      have h1 : a.tmps[dj]? = some (.bool t) := by
        cases h : a.tmps[dj]? with
        | none => rw [Array.getD_eq_getD_getElem?, h] at hval; cases hval
        | some v => rw [Array.getD_eq_getD_getElem?, h] at hval; exact congrArg some hval
      simp [hj, h1]
  by_cases hb : t = b
  · have := hy hb a ha
    unfold wpList at this ⊢
    simp only [Region.wanted, hyl, hb, beq_self_eq_true, if_true] at this ⊢
    exact this
  · have hb' : t = !b := by revert hb; cases t <;> cases b <;> decide
    have := hn hb' _ (ha.put hd undef)
    unfold wpList
    have hw : (some t == some b) = false := by revert hb; cases t <;> cases b <;> decide
    simp only [Region.wanted, hyl, hw]
    exact this
theorem WL.gy {ops : Array Oper} {Q : Exit → Fr → World → Prop} {f : Fr} {w : World} {rest : List Oper} {d ty : Nat} {pos : String} {aft : Array Edge} {op : Op} {j dj : Nat} {b t : Bool}
  (hj : (ops[j]?).bind (·.dst) = some dj) (ht : look f dj = some (.bool t)) (hd : Nat.blt d n.n = true) (e : t = b)
  (hy : WL P n ops Q (⟨some d, op, ty, pos, aft, none⟩ :: rest) f w) : WL P n ops Q (⟨some d, op, ty, pos, aft, some (j, b)⟩ :: rest) f w :=
 WL.gd hj ht hd (fun _ => hy) (fun h => by rw [e] at h; cases b <;> cases h)
theorem WL.gn {ops : Array Oper} {Q : Exit → Fr → World → Prop} {f : Fr} {w : World} {rest : List Oper} {d ty : Nat} {pos : String} {aft : Array Edge} {op : Op} {j dj : Nat} {b t : Bool}
  (hj : (ops[j]?).bind (·.dst) = some dj) (ht : look f dj = some (.bool t)) (hd : Nat.blt d n.n = true) (e : t = !b)
  (hn : WL P n ops Q rest ((d, undef) :: f) w) : WL P n ops Q (⟨some d, op, ty, pos, aft, some (j, b)⟩ :: rest) f w :=
 WL.gd hj ht hd (fun h => by rw [e] at h; cases b <;> cases h) (fun _ => hn)
end
theorem fbs_toList (l : List UInt8) : (bs l).toList = l := by simp [bs]
theorem fbs_extract (l : List UInt8) (a b : Nat) : (bs l).extract a b = bs ((l.drop a).take (b - a)) := by
 apply ByteArray.ext
 simp [bs, List.extract_eq_take_drop]
theorem beq_dec (l m : List UInt8) : (l == m) = decide (l = m) := by rw [Bool.eq_iff_iff]; simp
theorem i64w {r : Int} (h : -9223372036854775808 ≤ r ∧ r ≤ 9223372036854775807) : IntKind.i64.wrap r = r := by rw [IntKind.wrap_i64]; omega
theorem u8w {r : Int} (h : 0 ≤ r ∧ r ≤ 255) : IntKind.u8.wrap r = r := by rw [IntKind.wrap_u8']; omega
theorem u64w {r : Int} (h : 0 ≤ r ∧ r ≤ 18446744073709551615) : IntKind.u64.wrap r = r := by rw [IntKind.wrap_u64]; omega
theorem i64q {a b : Int} (h0 : 0 ≤ a) (h1 : a ≤ 9223372036854775807) (hb : 1 ≤ b) : IntKind.i64.wrap (a.tdiv b) = a / b := by
 rw [Int.tdiv_eq_ediv_of_nonneg h0]
 exact i64w ⟨by have := Int.ediv_nonneg h0 (by omega : 0 ≤ b); omega, by have := Int.ediv_le_self b h0; omega⟩
theorem u64q {a b : Int} (h0 : 0 ≤ a) (h1 : a ≤ 18446744073709551615) (hb : 1 ≤ b) : IntKind.u64.wrap (a.tdiv b) = a / b := by
 rw [Int.tdiv_eq_ediv_of_nonneg h0]
 exact u64w ⟨Int.ediv_nonneg h0 (by omega : 0 ≤ b), by have := Int.ediv_le_self b h0; omega⟩
section
variable {P : Program} {n : Sh} {f : Fr}
theorem Pure.mv {x : Operand} {v : Value} (hx : evo f x = some v) : Pure P (.move x) f v := fun ρ hρ d ty pos aft g w => by
 simp [execOp, hρ _ _ hx]
theorem WL.m {P : Program} {n : Sh} {ops : Array Oper} {Q : Exit → Fr → World → Prop} {f : Fr} {w : World} {rest : List Oper} {d ty : Nat} {pos : String} {aft : Array Edge} {x : Operand} {v : Value} (h : evo f x = some v) (hd : Nat.blt d n.n = true) (k : WL P n ops Q rest ((d, v) :: f) w) : WL P n ops Q (⟨some d, .move x, ty, pos, aft, none⟩ :: rest) f w := WL.p (.mv h) hd k
theorem Pure.as {x : Operand} {v : Value} (hx : evo f x = some v) : Pure P (.assign x) f v := fun ρ hρ d ty pos aft g w => by
 simp [execOp, hρ _ _ hx]
theorem WL.z {P : Program} {n : Sh} {ops : Array Oper} {Q : Exit → Fr → World → Prop} {f : Fr} {w : World} {d ty : Nat} {pos : String} {aft : Array Edge} {x : Operand} {v : Value} (h : evo f x = some v) (hd : Nat.blt d n.n = true) (k : Q .normal ((d, v) :: f) w) : WL P n ops Q [⟨some d, .assign x, ty, pos, aft, none⟩] f w := WL.p (.as h) hd (WL.nil k)
theorem WL.a {P : Program} {n : Sh} {ops : Array Oper} {Q : Exit → Fr → World → Prop} {f : Fr} {w : World} {rest : List Oper} {d ty : Nat} {pos : String} {aft : Array Edge} {x : Operand} {v : Value} (h : evo f x = some v) (hd : Nat.blt d n.n = true) (k : WL P n ops Q rest ((d, v) :: f) w) : WL P n ops Q (⟨some d, .assign x, ty, pos, aft, none⟩ :: rest) f w := WL.p (.as h) hd k
theorem Pure.pick {c x y : Operand} {t : Bool} {v : Value} (hc : evo f c = some (.bool t)) (h1 : t = true → evo f x = some v) (h2 : t = false → evo f y = some v) : Pure P (.pick c x y) f v := fun ρ hρ d ty pos aft g w => by
 cases t
 ·
  simp [execOp, hρ _ _ hc, asBool, hρ _ _ (h2 rfl)]
 ·
  simp [execOp, hρ _ _ hc, asBool, hρ _ _ (h1 rfl)]
theorem Pure.pkT {c x y : Operand} {t : Bool} {v : Value} (hc : evo f c = some (.bool t)) (e : t = true) (h1 : evo f x = some v) : Pure P (.pick c x y) f v :=
 .pick hc (fun _ => h1) (fun h => by rw [e] at h; cases h)
theorem Pure.pkF {c x y : Operand} {t : Bool} {v : Value} (hc : evo f c = some (.bool t)) (e : t = false) (h1 : evo f y = some v) : Pure P (.pick c x y) f v :=
 .pick hc (fun h => by rw [e] at h; cases h) (fun _ => h1)
section ints
variable {x y : Operand} {k : IntKind} {a b r : Int} {tx ty : TypeId}
theorem Pure.add (hx : evo f x = some (.int k a)) (hy : evo f y = some (.int k b)) (hr : k.wrap (a + b) = r) : Pure P (.binOp .add tx x y ty) f (.int k r) := fun ρ hρ d ty pos aft g w => by
 simp [execOp, hρ _ _ hx, hρ _ _ hy, eqGuard, binOp, Op.intArith, hr]
theorem Pure.sub (hx : evo f x = some (.int k a)) (hy : evo f y = some (.int k b)) (hr : k.wrap (a - b) = r) : Pure P (.binOp .sub tx x y ty) f (.int k r) := fun ρ hρ d ty pos aft g w => by
 simp [execOp, hρ _ _ hx, hρ _ _ hy, eqGuard, binOp, Op.intArith, hr]
theorem Pure.mul (hx : evo f x = some (.int k a)) (hy : evo f y = some (.int k b)) (hr : k.wrap (a * b) = r) : Pure P (.binOp .mul tx x y ty) f (.int k r) := fun ρ hρ d ty pos aft g w => by
 simp [execOp, hρ _ _ hx, hρ _ _ hy, eqGuard, binOp, Op.intArith, hr]
theorem Pure.quo (hx : evo f x = some (.int k a)) (hy : evo f y = some (.int k b)) (h0 : b ≠ 0) (hr : k.wrap (a.tdiv b) = r) : Pure P (.binOp .quo tx x y ty) f (.int k r) := fun ρ hρ d ty pos aft g w => by
 simp [execOp, hρ _ _ hx, hρ _ _ hy, eqGuard, binOp, Op.intDiv, h0, hr]
theorem Pure.rem (hx : evo f x = some (.int k a)) (hy : evo f y = some (.int k b)) (h0 : b ≠ 0) (hr : a.tmod b = r) : Pure P (.binOp .rem tx x y ty) f (.int k r) := fun ρ hρ d ty pos aft g w => by
 simp [execOp, hρ _ _ hx, hρ _ _ hy, eqGuard, binOp, Op.intDiv, h0, hr]
theorem Pure.lss (hx : evo f x = some (.int k a)) (hy : evo f y = some (.int k b)) : Pure P (.binOp .lss tx x y ty) f (.bool (decide (a < b))) := fun ρ hρ d ty pos aft g w => by
 simp [execOp, hρ _ _ hx, hρ _ _ hy, eqGuard, binOp, Op.intCmp]
theorem Pure.leq (hx : evo f x = some (.int k a)) (hy : evo f y = some (.int k b)) : Pure P (.binOp .leq tx x y ty) f (.bool (decide (a ≤ b))) := fun ρ hρ d ty pos aft g w => by
 simp [execOp, hρ _ _ hx, hρ _ _ hy, eqGuard, binOp, Op.intCmp]
theorem Pure.gtr (hx : evo f x = some (.int k a)) (hy : evo f y = some (.int k b)) : Pure P (.binOp .gtr tx x y ty) f (.bool (decide (b < a))) := fun ρ hρ d ty pos aft g w => by
 simp [execOp, hρ _ _ hx, hρ _ _ hy, eqGuard, binOp, Op.intCmp]
theorem Pure.geq (hx : evo f x = some (.int k a)) (hy : evo f y = some (.int k b)) : Pure P (.binOp .geq tx x y ty) f (.bool (decide (b ≤ a))) := fun ρ hρ d ty pos aft g w => by
 simp [execOp, hρ _ _ hx, hρ _ _ hy, eqGuard, binOp, Op.intCmp]
theorem Pure.eql (hx : evo f x = some (.int k a)) (hy : evo f y = some (.int k b)) : Pure P (.binOp .eql tx x y ty) f (.bool (decide (a = b))) := fun ρ hρ d ty pos aft g w => by
 simp [execOp, hρ _ _ hx, hρ _ _ hy, eqGuard, binOp, Op.intCmp]; rfl
theorem Pure.neq (hx : evo f x = some (.int k a)) (hy : evo f y = some (.int k b)) : Pure P (.binOp .neq tx x y ty) f (.bool (!decide (a = b))) := fun ρ hρ d ty pos aft g w => by
 simp [execOp, hρ _ _ hx, hρ _ _ hy, eqGuard, binOp, Op.intCmp]; rfl
theorem Pure.neg (hx : evo f x = some (.int k a)) (hr : k.wrap (-a) = r) : Pure P (.unOp .neg tx x) f (.int k r) := fun ρ hρ d ty pos aft g w => by
 simp [execOp, hρ _ _ hx, Op.unary, Op.intArith, hr]
theorem Pure.not {t : Bool} (hx : evo f x = some (.bool t)) : Pure P (.unOp .not tx x) f (.bool (!t)) := fun ρ hρ d ty pos aft g w => by
 simp [execOp, hρ _ _ hx, Op.unary]
theorem Pure.cvt {k' k0 : IntKind} (hs : P.underlying tx = some (.int k0)) (ht : P.underlying ty = some (.int k')) (hx : evo f x = some (.int k a)) (hr : k'.wrap a = r) : Pure P (.convert tx ty x) f (.int k' r) := fun ρ hρ d ty' pos aft g w => by
 simp [execOp, hρ _ _ hx, convert, run_underlying hs, run_underlying ht, Conv.intToInt, hr]
theorem Pure.neb {s t : Bool} (hu : P.underlying tx = some .bool) (hx : evo f x = some (.bool s)) (hy : evo f y = some (.bool t)) : Pure P (.binOp .neq tx x y ty) f (.bool (!decide (s = t))) := fun ρ hρ d ty pos aft g w => by
 have h := run_neq_bool w tx s t hu
 simp only [execOp, hρ _ _ hx, hρ _ _ hy, Sem.run_bind]
 have hg : (eqGuard .neq tx x y (.bool s) (.bool t)).run P w = .ok () w := by simp [eqGuard]
 simp only [hg, Result.andThen_ok, h]
 cases s <;> cases t <;> rfl
end ints
section strings
variable {x y : Operand} {l m : List UInt8} {tx ty : TypeId}
theorem Pure.len {at' : TypeId} (hu : P.underlying at' = some .string) (hx : evo f x = some (.string (bs l))) : Pure P (.call ⟨.builtin .len, #[x], #[at']⟩) f (.int .i64 (l.length : Int)) := fun ρ hρ d ty pos aft g w => by
 simp [execOp, resolve, invoke, builtin, Builtin.len_, run_underlying hu, hρ _ _ hx, goInt, bs_size]
theorem Pure.ix {i : Int} (hu : P.underlying tx = some .string) (hx : evo f x = some (.string (bs l))) (hi : evo f y = some (.int .i64 i)) (k : Nat) (e : i = k) (hk : k < l.length) : Pure P (.index tx x y) f (.int .u8 (l[k].toNat : Int)) := fun ρ hρ d ty pos aft g w => by
 subst e
 have h1 : (bs l)[k]? = some l[k] := by
  have : k < (bs l).size := by rw [bs_size]; exact hk
  rw [getElem?_pos (bs l) k this]; rfl
 simp [execOp, Instr.index, hρ _ _ hx, hρ _ _ hi, asIntOf, run_underlying hu, h1]
theorem Pure.slF {i : Int} (hu : P.underlying tx = some .string) (hx : evo f x = some (.string (bs l))) (hi : evo f y = some (.int .i64 i)) (k : Nat) (e : i = k) (hk : k ≤ l.length) : Pure P (.slice tx x (some y) none none) f (.string (bs (l.drop k))) := fun ρ hρ d ty pos aft g w => by
 subst e
 have h2 : (l.drop k).take (l.length - k) = l.drop k := List.take_of_length_le (by simp)
 simp [execOp, Instr.sliceAt, Instr.slice, Instr.sliceBounds, Instr.sliceBound, hρ _ _ hx, hρ _ _ hi, asIntOf, run_underlying hu, hk, fbs_extract, bs_size, h2]
theorem Pure.eqs (hx : evo f x = some (.string (bs l))) (hy : evo f y = some (.string (bs m))) : Pure P (.binOp .eql tx x y ty) f (.bool (decide (l = m))) := fun ρ hρ d ty pos aft g w => by
 simp [execOp, hρ _ _ hx, hρ _ _ hy, eqGuard, binOp, Op.stringOp, fbs_toList, beq_dec]
/-- a part of several results -/
theorem Pure.ext {i : Nat} {vs : Array Value} {v : Value} (hx : evo f x = some (.tuple vs)) (hv : vs[i]? = some v) : Pure P (.extract x i) f v := fun ρ hρ d ty pos aft g w => by
 simp [execOp, hρ _ _ hx, Instr.extract, hv]
end strings
/-- a function with a body of its own -/
def HasBody (P : Program) (F : FuncId) : Prop := ∃ fn, P.funcs[F]? = some fn ∧ fn.body ≠ none ∧ fn.name ≠ "runtime.NumGoroutine"
theorem hasBody {F : FuncId} {fn : Func} (hf : P.funcs[F]? = some fn) (hb : (fn.body.isNone || fn.name == "runtime.NumGoroutine") = false) : HasBody P F := by
 simp only [Bool.or_eq_false_iff] at hb
 exact ⟨fn, hf, fun h => by rw [h] at hb; exact absurd hb.1 dD, fun h => by rw [h] at hb; exact absurd hb.2 dD⟩
/-- the values of operands -/
def evs (f : Fr) : List Operand → Option (List Value)
 | [] => some []
 | x :: r => match evo f x, evs f r with
  | some v, some vs => some (v :: vs)
  | _, _ => none
theorem evs_map {ρ : Operand → Value} (hρ : Agr f ρ) : ∀ (xs : List Operand) (vs : List Value), evs f xs = some vs → xs.map ρ = vs
 | [], vs, h => by simp only [evs, Option.some.injEq] at h; subst h; rfl
 | x :: r, vs, h => by
  unfold evs at h
  cases hx : evo f x with
  | none => rw [hx] at h; cases h
  | some v =>
   cases hr : evs f r with
   | none => rw [hx, hr] at h; cases h
   | some us =>
    rw [hx, hr] at h
    simp only [Option.some.injEq] at h
    subst h
    simp [hρ _ _ hx, evs_map hρ r us hr]
theorem run_callOp {F : FuncId} (hb : HasBody P F) {ρ : Operand → Value} (hρ : Agr f ρ) {xs : List Operand} {vs : List Value} (hx : evs f xs = some vs) {ats : Array TypeId} (d : Option Tmp) (ty : TypeId) (pos : String) (aft : Array Edge) (g : Option (Nat × Bool)) (w : World) :
  (execOp ρ ⟨d, .call ⟨.value (.func F), xs.toArray, ats⟩, ty, pos, aft, g⟩).run P w = .ok (.enter F vs.toArray) w := by
 obtain ⟨fn, h1, h2, h3⟩ := hb
 have e := evs_map hρ _ _ hx
 have hfn : ρ (.func F) = .func (.func F) #[] #[] := hρ _ _ rfl
 have hargs : xs.toArray.map ρ = vs.toArray := by simp [e]
 unfold execOp
 simp only [resolve, hargs, hfn]
 simp [Deferred.ofValue, invoke, callFunc, run_program, h1, h2, h3]
/-- a call, by a contract -/
theorem WL.call {ops : Array Oper} {Q : Exit → Fr → World → Prop} {w : World} {rest : List Oper} {d ty : Nat} {pos : String} {aft : Array Edge} {F : FuncId} {xs : List Operand} {ats : Array TypeId} {vs : List Value} {α : Sort _}
  {V : α → Value} {S : α → World → Prop} (hb : HasBody P F) (hx : evs f xs = some vs) (hd : Nat.blt d n.n = true)
  (hc : Calls P F vs.toArray w fun e w' => ∃ t, e = .returned (V t) ∧ S t w') (k : ∀ t w', S t w' → WL P n ops Q rest ((d, V t) :: f) w') :
  WL P n ops Q (⟨some d, .call ⟨.value (.func F), xs.toArray, ats⟩, ty, pos, aft, none⟩ :: rest) f w := by
 intro a ha
 refine wpList_plain rfl fun K hK => ?_
 unfold Oper.wp
 rw [run_callOp hb ha.agr hx, Oper.upon_enter]
 refine hc.mono ?_
 rintro e w' ⟨t, rfl, hS⟩
 exact hK _ _ (k t w' hS _ (ha.put hd _))
/-- a panic of the text's own -/
theorem WL.pn {ops : Array Oper} {Q : Exit → Fr → World → Prop} {w : World} {rest : List Oper} {d : Option Tmp} {ty : Nat} {pos : String} {aft : Array Edge} {op : Op} {v : Value}
  (h : ∀ ρ, Agr f ρ → (execOp ρ ⟨d, op, ty, pos, aft, none⟩).run P w = .halt (.panic v) w) (k : Q (.panic [{ v, recovered := false }]) f w) :
  WL P n ops Q (⟨d, op, ty, pos, aft, none⟩ :: rest) f w := by
 intro a ha
 refine wpList_plain rfl fun K hK => ?_
 unfold Oper.wp
 rw [h _ ha.agr, Oper.upon_panic]
 exact ⟨f, ha, k⟩
/-- a call, by a contract that tells one value -/
theorem WL.c1 {ops : Array Oper} {Q : Exit → Fr → World → Prop} {w : World} {rest : List Oper} {d ty : Nat} {pos : String} {aft : Array Edge} {F : FuncId} {xs : List Operand} {ats : Array TypeId} {vs : List Value}
  {V : Value} {S : World → Prop} (hb : HasBody P F) (hx : evs f xs = some vs) (hd : Nat.blt d n.n = true)
  (hc : Calls P F vs.toArray w fun e w' => e = .returned V ∧ S w') (k : ∀ w', S w' → WL P n ops Q rest ((d, V) :: f) w') :
  WL P n ops Q (⟨some d, .call ⟨.value (.func F), xs.toArray, ats⟩, ty, pos, aft, none⟩ :: rest) f w :=
 WL.call (α := Unit) (V := fun _ => V) (S := fun _ => S) hb hx hd (hc.mono fun _ _ h => ⟨(), h⟩) (fun _ => k)
/-- a block of cells that may be written -/
def Blk (w : World) (b : Nat) (cs : Array Value) (t : TypeId) : Prop := w.heap[b]? = some (.cells cs t (0, 0))
/-- w1 is w but for one block, which may be new -/
structure Upd (b : Nat) (w w1 : World) : Prop where
 os : w1.os = w.os
 tape : w1.tape = w.tape
 output : w1.output = w.output
 size : w.heap.size ≤ w1.heap.size
 other : ∀ k, k ≠ b → w1.heap[k]? = w.heap[k]?
theorem Blk.lt {w : World} {b : Nat} {cs : Array Value} {t : TypeId} (h : Blk w b cs t) : b < w.heap.size := (Array.getElem?_eq_some_iff.1 h).1
theorem Upd.below {B b : Nat} {w0 w w1 : World} (hb : Below B w0 w) (hB : B ≤ b) (h : Upd b w w1) : Below B w0 w1 :=
 ⟨h.os.trans hb.os, h.tape.trans hb.tape, h.output.trans hb.output, Nat.le_trans hb.size h.size, fun k hk => (h.other k oO).trans (hb.block k hk)⟩
theorem Blk.upd {w w1 : World} {b c : Nat} {cs : Array Value} {t : TypeId} (h : Blk w c cs t) (hu : Upd b w w1) (hne : c ≠ b) : Blk w1 c cs t := (hu.other c hne).trans h
theorem Blk.up {w w1 : World} {b c : Nat} {cs : Array Value} {t : TypeId} (h : Blk w c cs t) (hu : Upd b w w1) (hne : c ≠ b := by ((try simp only) <;> omega)) : Blk w1 c cs t := h.upd hu hne
theorem Blk.below {w w1 : World} {B c : Nat} {cs : Array Value} {t : TypeId} (h : Blk w c cs t) (hb : Below B w w1) (hc : c < B) : Blk w1 c cs t := (hb.block c hc).trans h
theorem Upd.alloc (w : World) (o : Obj) : Upd w.heap.size w (w.alloc o) := ⟨rfl, rfl, rfl, by simp, fun k hk => by
 show (w.heap.push o)[k]? = _
 rw [Array.getElem?_push, if_neg hk]⟩
theorem Upd.setRow (w : World) (b : Nat) (cs : Array Value) : Upd b w (w.setRow b cs) := ⟨rfl, rfl, rfl, by simp [World.setRow], fun k hk => by
 simp only [World.setRow, Array.getElem?_modify]
 rw [if_neg oO]⟩
theorem Upd.setCell (w : World) (b o : Nat) (v : Value) : Upd b w (w.setCell ⟨b, o, none⟩ v) := ⟨rfl, rfl, rfl, by simp [World.setCell], fun k hk => by
 simp only [World.setCell, Array.getElem?_modify]
 rw [if_neg oO]⟩
theorem Blk.alloc (w : World) (cs : Array Value) (t : TypeId) : Blk (w.alloc (.cells cs t)) w.heap.size cs t := by
 show (w.heap.push _)[w.heap.size]? = _
 simp
theorem Blk.setCell {w : World} {b : Nat} {cs : Array Value} {t : TypeId} (h : Blk w b cs t) (o : Nat) (v : Value) : Blk (w.setCell ⟨b, o, none⟩ v) b (cs.setIfInBounds o v) t := by
 unfold Blk at *
 simp [World.setCell, Array.getElem?_modify, h]
theorem Blk.cell {w : World} {b : Nat} {cs : Array Value} {t : TypeId} (h : Blk w b cs t) (o : Nat) : w.cell? ⟨b, o, none⟩ = cs[o]? := cell_of_row w b o cs t (0, 0) h
theorem Blk.free {w : World} {b : Nat} {cs : Array Value} {t : TypeId} (h : Blk w b cs t) (o : Nat) : w.frozen? ⟨b, o, none⟩ = false := by
 unfold Blk at h
 simp [World.frozen?, h]
section mem
variable {ops : Array Oper} {Q : Exit → Fr → World → Prop} {w : World} {rest : List Oper} {d ty : Nat} {pos : String} {aft : Array Edge}
/-- a new variable -/
theorem WL.alloc {t : TypeId} {z : Value} (hz : ∀ w, (zeroValue t).run P w = .ok z w) (hd : Nat.blt d n.n = true)
  (k : ∀ b w1, b = w.heap.size → Blk w1 b z.cells t → Upd b w w1 → w1.heap.size = b + 1 → WL P n ops Q rest ((d, .pointer (some ⟨b, 0, none⟩)) :: f) w1) :
  WL P n ops Q (⟨some d, .alloc t, ty, pos, aft, none⟩ :: rest) f w :=
 WL.run hd (w' := w.alloc (.cells z.cells t)) (v := .pointer (some ⟨w.heap.size, 0, none⟩)) (fun ρ hρ => by
  simp [execOp, Instr.alloc, hz, newVar, newRow]) (k _ _ rfl (Blk.alloc _ _ _) (Upd.alloc _ _) (by simp))
/-- a new variable with a value -/
theorem WL.box {t : TypeId} {x : Operand} {v : Value} (hx : evo f x = some v) (hd : Nat.blt d n.n = true)
  (k : ∀ b w1, b = w.heap.size → Blk w1 b v.cells t → Upd b w w1 → w1.heap.size = b + 1 → WL P n ops Q rest ((d, .pointer (some ⟨b, 0, none⟩)) :: f) w1) :
  WL P n ops Q (⟨some d, .box t x, ty, pos, aft, none⟩ :: rest) f w :=
 WL.run hd (w' := w.alloc (.cells v.cells t)) (v := .pointer (some ⟨w.heap.size, 0, none⟩)) (fun ρ hρ => by
  simp [execOp, Instr.box, hρ _ _ hx, newVar, newRow]) (k _ _ rfl (Blk.alloc _ _ _) (Upd.alloc _ _) (by simp))
/-- a variable of several cells is stored -/
theorem WL.stA {t tb : TypeId} {x y : Operand} {b : Nat} {old cs : Array Value} (hx : evo f x = some (.pointer (some ⟨b, 0, none⟩))) (hy : evo f y = some (.agg cs)) (hb : Blk w b old tb)
  (hi : (P.info? t).map (·.size) = some cs.size) (ho : old.size = cs.size) (h1 : cs.all (·.oneCell') = true)
  (k : ∀ w1, Blk w1 b cs tb → Upd b w w1 → w1.heap.size = w.heap.size → WL P n ops Q rest f w1) :
  WL P n ops Q (⟨none, .store t x y, ty, pos, aft, none⟩ :: rest) f w :=
 WL.act (w' := w.setRow b cs) (fun ρ hρ => by
  unfold execOp
  simp only [hρ _ _ hx, hρ _ _ hy, Instr.storeAt, Instr.sureAddr, Sem.run_bind, Sem.run_pure, Result.andThen_ok, run_storeVar_row w b tb t old cs hb hi ho h1])
  (k _ (setRow_heap w b old cs tb (0, 0) hb) (Upd.setRow _ _ _) (by simp [World.setRow]))
/-- a variable of several cells is read -/
theorem WL.ldA {t tb : TypeId} {x : Operand} {b : Nat} {cs : Array Value} {dd : TypeDesc} (hx : evo f x = some (.pointer (some ⟨b, 0, none⟩))) (hb : Blk w b cs tb)
  (hu : P.underlying t = some dd) (hdd : (match dd with | .struct _ | .array _ _ => true | _ => false) = true) (hi : (P.info? t).map (·.size) = some cs.size) (hd : Nat.blt d n.n = true)
  (k : WL P n ops Q rest ((d, .agg cs) :: f) w) : WL P n ops Q (⟨some d, .load t x, ty, pos, aft, none⟩ :: rest) f w :=
 WL.run hd (fun ρ hρ => by
  unfold execOp
  simp only [hρ _ _ hx, Instr.loadAt, Instr.sureAddr, Sem.run_bind, Sem.run_pure, Result.andThen_ok, run_loadVar_row w b tb t cs (0, 0) dd hb hu hdd hi]) k
/-- a struct's value out of its parts -/
theorem Pure.build {t : TypeId} {ps : List (Nat × Operand)} {vs : List Value} {cs : Array Value} (hx : evs f (ps.map (·.2)) = some vs) (hb : P.built t ((ps.map (·.1)).zip vs) = some cs) : Pure P (.build t ps.toArray) f (.agg cs) := fun ρ hρ d ty pos aft g w => by
 have e := evs_map hρ _ _ hx
 have e2 : (ps.toArray.map fun (i, x) => (i, ρ x)).toList = (ps.map (·.1)).zip vs := by
  rw [← e]
  simp only [List.map_map, Array.toList_map]
  clear hx hb e
  induction ps with
  | nil => rfl
  | cons p r ih => simpa using ih
 unfold execOp
 simp only [Sem.run_bind, run_build w t _ cs (by rw [e2]; exact hb), Result.andThen_ok, Sem.run_pure]
end mem
end
section
variable {P : Program} {n : Sh} {f : Fr}
/-- an operation that only reads: its value in this world -/
def Rd (P : Program) (op : Op) (f : Fr) (w : World) (v : Value) : Prop := ∀ ρ, Agr f ρ → ∀ d ty pos aft g, (execOp ρ ⟨d, op, ty, pos, aft, g⟩).run P w = .ok (.value v) w
theorem Pure.rd {op : Op} {v : Value} {w : World} (h : Pure P op f v) : Rd P op f w v := fun ρ hρ d ty pos aft g => h ρ hρ d ty pos aft g w
theorem Rd.ld {t tb : TypeId} {x : Operand} {b o : Nat} {cs : Array Value} {v : Value} {w : World} (ha : (isAgg t).run P w = .ok false w) (hx : evo f x = some (.pointer (some ⟨b, o, none⟩))) (hb : Blk w b cs tb) (hv : cs[o]? = some v) :
  Rd P (.load t x) f w v := fun ρ hρ d ty pos aft g => by
 have hc := (hb.cell o).trans hv
 simp [execOp, hρ _ _ hx, Instr.loadAt, Instr.sureAddr, loadVar, ha, hc]
theorem Rd.ldc {t : TypeId} {x : Operand} {p : Addr} {v : Value} {w : World} (ha : (isAgg t).run P w = .ok false w) (hx : evo f x = some (.pointer (some p))) (hv : w.cell? p = some v) :
  Rd P (.load t x) f w v := fun ρ hρ d ty pos aft g => by
 simp [execOp, hρ _ _ hx, Instr.loadAt, Instr.sureAddr, loadVar, ha, hv]
theorem Rd.ldA {t tb : TypeId} {x : Operand} {b : Nat} {cs : Array Value} {dd : TypeDesc} {w : World} (hx : evo f x = some (.pointer (some ⟨b, 0, none⟩))) (hb : Blk w b cs tb)
  (hu : P.underlying t = some dd) (hdd : (match dd with | .struct _ | .array _ _ => true | _ => false) = true) (hi : (P.info? t).map (·.size) = some cs.size) : Rd P (.load t x) f w (.agg cs) := fun ρ hρ d ty pos aft g => by
 unfold execOp
 simp only [hρ _ _ hx, Instr.loadAt, Instr.sureAddr, Sem.run_bind, Sem.run_pure, Result.andThen_ok, run_loadVar_row w b tb t cs (0, 0) dd hb hu hdd hi]
/-- the length of a slice -/
theorem Pure.lenS {at' e : TypeId} {x : Operand} {p : Option Addr} {l c : Nat} (hu : P.underlying at' = some (.slice e)) (hx : evo f x = some (.slice p l c)) : Pure P (.call ⟨.builtin .len, #[x], #[at']⟩) f (.int .i64 (l : Int)) := fun ρ hρ d ty pos aft g w => by
 simp [execOp, resolve, invoke, builtin, Builtin.len_, run_underlying hu, hρ _ _ hx, goInt]
/-- the address of a slice's element -/
theorem Pure.ixa {tx e : TypeId} {x y : Operand} {p : Addr} {l c sz : Nat} {i : Int} {k : IntKind} (hu : P.underlying tx = some (.slice e)) (hs : ∀ w, (sizeOf e).run P w = .ok sz w) (hx : evo f x = some (.slice (some p) l c))
  (hi : evo f y = some (.int k i)) (j : Nat) (e' : i = j) (hj : j < l) : Pure P (.indexAddr tx x y) f (.pointer (some (p.add (j * sz)))) := fun ρ hρ d ty pos aft g w => by
 subst e'
 simp [execOp, Instr.indexAt, hρ _ _ hx, hρ _ _ hi, asIntOf, run_underlying hu, hs, hj]
/-- the address of a field -/
theorem Pure.fa {s : TypeId} {x : Operand} {p : Addr} {i : Nat} {fs : Array Field} {fd : Field} {sz : Nat} (hu : P.underlying s = some (.struct fs)) (hf : fs[i]? = some fd) (hs : ∀ w, (sizeOf fd.type).run P w = .ok sz w) (h0 : sz ≠ 0)
  (hx : evo f x = some (.pointer (some p))) : Pure P (.fieldAddr s x i) f (.pointer (some (p.add fd.offset))) := fun ρ hρ d ty pos aft g w => by
 simp [execOp, Instr.fieldAt, hρ _ _ hx, run_underlying hu, hf, Instr.sureAddr, fieldPlace, hs, h0]
/-- a check against nil -/
theorem Pure.nck {x : Operand} {p : Addr} (hx : evo f x = some (.pointer (some p))) : Pure P (.nilCheck x) f (.pointer (some p)) := fun ρ hρ d ty pos aft g w => by
 simp [execOp, hρ _ _ hx]
theorem WL.r {ops : Array Oper} {Q : Exit → Fr → World → Prop} {w : World} {rest : List Oper} {d ty : Nat} {pos : String} {aft : Array Edge} {op : Op} {v : Value}
  (h : Rd P op f w v) (hd : Nat.blt d n.n = true) (k : WL P n ops Q rest ((d, v) :: f) w) : WL P n ops Q (⟨some d, op, ty, pos, aft, none⟩ :: rest) f w :=
 WL.run hd (fun ρ hρ => h ρ hρ _ _ _ _ _) k
/-- one cell is stored -/
theorem WL.st {ops : Array Oper} {Q : Exit → Fr → World → Prop} {w : World} {rest : List Oper} {ty : Nat} {pos : String} {aft : Array Edge} {t tb : TypeId} {x y : Operand} {b o : Nat} {cs : Array Value} {v : Value}
  (hs : ∀ w, (sizeOf t).run P w = .ok 1 w) (hx : evo f x = some (.pointer (some ⟨b, o, none⟩))) (hy : evo f y = some v) (h1 : v.oneCell' = true) (hb : Blk w b cs tb) (ho : o < cs.size)
  (k : ∀ w1, Blk w1 b (cs.setIfInBounds o v) tb → Upd b w w1 → w1.heap.size = w.heap.size → WL P n ops Q rest f w1) : WL P n ops Q (⟨none, .store t x y, ty, pos, aft, none⟩ :: rest) f w :=
 WL.act (w' := w.setCell ⟨b, o, none⟩ v) (fun ρ hρ => by
  have hc : w.cell? ⟨b, o, none⟩ = some cs[o] := by rw [hb.cell o]; simp [ho]
  have hf := hb.free o
  have hst := run_store P w ⟨b, o, none⟩ v .plain h1
  have hcs : v.cells = #[v] := by cases v <;> first | rfl | cases h1
  have h0 : (⟨b, o, none⟩ : Addr).add 0 = ⟨b, o, none⟩ := by simp [Addr.add]
  simp [execOp, hρ _ _ hx, hρ _ _ hy, Instr.storeAt, Instr.sureAddr, storeVar, hcs, hs, storeCells, h0, hst, hc, hf])
  (k _ (hb.setCell o v) (Upd.setCell w b o v) (by simp [World.setCell]))
/-- a guard that was passed over itself -/
theorem yielded_undef {a : Act} {ops : Array Oper} {j dj : Nat} (ha : Rep n f a) (hj : (ops[j]?).bind (·.dst) = some dj) (ht : look f dj = some undef) : yielded ops a.tmps j = none := by
 have hval := ha.2.2 _ _ ht
 unfold yielded
 cases ho : ops[j]? with
 | none => rw [ho] at hj; cases hj
 | some o =>
  rw [ho] at hj
  simp only [Option.bind_some] at hj
  cases h : a.tmps[dj]? with
  | none => simp [hj, h]
  | some v =>
   rw [Array.getD_eq_getD_getElem?, h] at hval
   simp only [Option.getD_some] at hval
   subst hval
   simp [hj, h, undef]
theorem WL.gu {ops : Array Oper} {Q : Exit → Fr → World → Prop} {w : World} {rest : List Oper} {d ty : Nat} {pos : String} {aft : Array Edge} {op : Op} {j dj : Nat} {b : Bool}
  (hj : (ops[j]?).bind (·.dst) = some dj) (ht : look f dj = some undef) (hd : Nat.blt d n.n = true)
  (hn : WL P n ops Q rest ((d, undef) :: f) w) : WL P n ops Q (⟨some d, op, ty, pos, aft, some (j, b)⟩ :: rest) f w := by
 intro a ha
 have hyl := yielded_undef ha hj ht
 have := hn _ (ha.put hd undef)
 unfold wpList
 simp only [Region.wanted, hyl]
 exact this
/-- more is known -/
def Le (g f : Fr) : Prop := ∀ i v, look g i = some v → look f i = some v
theorem Le.refl (f : Fr) : Le f f := fun _ _ h => h
theorem Le.cons {g f : Fr} {d : Nat} {v : Value} (hd : look g d = none) (h : Le g f) : Le g ((d, v) :: f) := by
 intro i u hu
 unfold look
 cases hb : Nat.beq d i with
 | true =>
  obtain rfl : d = i := Nat.eq_of_beq_eq_true hb
  rw [hd] at hu; cases hu
 | false => exact h i u hu
theorem Le.put {g f : Fr} (h : Le g f) {d : Nat} {v : Value} (hd : look f d = some v) : Le ((d, v) :: g) f := by
 intro i u hu
 unfold look at hu
 cases hb : Nat.beq d i with
 | true =>
  rw [hb] at hu
  obtain rfl : d = i := Nat.eq_of_beq_eq_true hb
  rw [hd]; exact hu
 | false => rw [hb] at hu; exact h i u hu
theorem ndT {p : Prop} [Decidable p] (h : (!decide p) = true) : ¬ p := by simpa using h
theorem ndF {p : Prop} [Decidable p] (h : (!decide p) = false) : p := by simpa using h
theorem nT {t : Bool} (h : (!t) = true) : t = false := by simpa using h
theorem nF {t : Bool} (h : (!t) = false) : t = true := by simpa using h
/-- w1 is w after some draws -/
def Drew (w w1 : World) : Prop := ∃ m, w1 = w.drewN m
theorem Drew.refl (w : World) : Drew w w := ⟨0, rfl⟩
theorem Drew.trans {a b c : World} (h : Drew a b) (k : Drew b c) : Drew a c := by
 obtain ⟨m, rfl⟩ := h; obtain ⟨j, rfl⟩ := k; exact ⟨m + j, by rw [World.drewN_drewN]⟩
theorem Drew.below {B : Nat} {w0 w w1 : World} (h : Below B w0 w) (d : Drew w w1) : Below B w0 w1 := by
 obtain ⟨m, rfl⟩ := d; exact ⟨h.os, h.tape, h.output, h.size, h.block⟩
theorem Drew.size {w w1 : World} (d : Drew w w1) : w1.heap.size = w.heap.size := by obtain ⟨m, rfl⟩ := d; rfl
theorem Blk.drew {w w1 : World} {b : Nat} {cs : Array Value} {t : TypeId} (h : Blk w b cs t) (d : Drew w w1) : Blk w1 b cs t := by obtain ⟨m, rfl⟩ := d; exact h
/-- the first N operations only read; what stands behind comes in the text's order -/
def WS (P : Program) (n : Sh) (ops : Array Oper) (Q : Exit → Fr → World → Prop) (tail : List Oper) (w : World) (l : List Oper) (f : Fr) : Prop :=
 ∀ a, Rep n f a → wpStill P ops w (fun a' => wpList P ops (lift n Q) tail a' w) l a
theorem W.regT {Q : Exit → Fr → World → Prop} {w : World} {id : Nat} {l : List Oper} (N : Nat) (hm : P.follows .mixedOrders = true) (hB : Region.lexTailB .any l.toArray N = true)
  (h : ∀ w1, Drew w w1 → WS P n l.toArray Q (l.drop N) w1 (l.take N) f) : W P n (.region id l.toArray true) Q f w :=
 fun a ha => wp_region_still_tail N hm hB (h _ ⟨1, rfl⟩ a ha)
section
variable {ops : Array Oper} {Q : Exit → Fr → World → Prop} {w : World} {tail rest : List Oper} {d ty : Nat} {pos : String} {aft : Array Edge} {op : Op} {v : Value}
theorem WS.nil (h : WL P n ops Q tail f w) : WS P n ops Q tail w [] f := fun a ha => wpStill_nil (h a ha)
theorem WS.r (h : Rd P op f w v) (hd : Nat.blt d n.n = true) (k : WS P n ops Q tail w rest ((d, v) :: f)) : WS P n ops Q tail w (⟨some d, op, ty, pos, aft, none⟩ :: rest) f := by
 intro a ha
 unfold wpStill
 rw [if_pos (by simp [Region.wanted])]
 unfold Oper.still
 rw [h _ ha.agr]
 exact ⟨rfl, k _ (ha.put hd v)⟩
theorem WS.p (h : Pure P op f v) (hd : Nat.blt d n.n = true) (k : WS P n ops Q tail w rest ((d, v) :: f)) : WS P n ops Q tail w (⟨some d, op, ty, pos, aft, none⟩ :: rest) f := WS.r h.rd hd k
end
def WQ (P : Program) (n : Sh) (ops : Array Oper) (Q : Exit → Fr → World → Prop) (w : World) (l : List Oper) (f : Fr) : Prop :=
 ∀ a, Rep n f a → wpQuiet P ops (fun w' => ∃ m, w' = w.drewN m) (fun a' => ∀ w', (∃ m, w' = w.drewN m) → lift n Q .normal a' w') l a
theorem W.regQ {Q : Exit → Fr → World → Prop} {w : World} {id : Nat} {l : List Oper} (hm : P.follows .mixedOrders = true) (hB : Region.lexB .any l.toArray = true) (h : WQ P n l.toArray Q w l f) : W P n (.region id l.toArray true) Q f w :=
 fun a ha => wp_region_quiet_lit hm hB (h a ha)
section
variable {ops : Array Oper} {Q : Exit → Fr → World → Prop} {w : World} {rest : List Oper} {d ty : Nat} {pos : String} {aft : Array Edge} {op : Op} {v : Value}
theorem WQ.nil (h : ∀ w1, Drew w w1 → Q .normal f w1) : WQ P n ops Q w [] f := fun _ ha => wpQuiet_nil fun w' e => ⟨f, ha, h w' e⟩
theorem WQ.r (h : ∀ m, Rd P op f (w.drewN m) v) (hd : Nat.blt d n.n = true) (k : WQ P n ops Q w rest ((d, v) :: f)) : WQ P n ops Q w (⟨some d, op, ty, pos, aft, none⟩ :: rest) f := by
 intro a ha
 unfold wpQuiet
 rw [if_pos (by simp [Region.wanted])]
 refine ⟨v, ?_, k _ (ha.put hd v)⟩
 rintro w' ⟨m, rfl⟩
 unfold Oper.quietAt
 rw [h m _ ha.agr]
 exact ⟨rfl, rfl⟩
theorem WQ.p (h : Pure P op f v) (hd : Nat.blt d n.n = true) (k : WQ P n ops Q w rest ((d, v) :: f)) : WQ P n ops Q w (⟨some d, op, ty, pos, aft, none⟩ :: rest) f := WQ.r (fun _ => h.rd) hd k
theorem WQ.gd {j dj : Nat} {b t : Bool} (hj : (ops[j]?).bind (·.dst) = some dj) (ht : look f dj = some (.bool t)) (hd : Nat.blt d n.n = true)
    (hy : t = b → WQ P n ops Q w (⟨some d, op, ty, pos, aft, none⟩ :: rest) f) (hn : t = !b → WQ P n ops Q w rest ((d, undef) :: f)) :
    WQ P n ops Q w (⟨some d, op, ty, pos, aft, some (j, b)⟩ :: rest) f := by
  intro a ha
  have hval := ha.2.2 _ _ ht
  have hyl : yielded ops a.tmps j = some t := by
    unfold yielded
    cases ho : ops[j]? with
    | none => rw [ho] at hj; cases hj
    | some o =>
      rw [ho] at hj
      simp only [Option.bind_some] at hj
      have h1 : a.tmps[dj]? = some (.bool t) := by
        cases h : a.tmps[dj]? with
        | none => rw [Array.getD_eq_getD_getElem?, h] at hval; cases hval
        | some v => rw [Array.getD_eq_getD_getElem?, h] at hval; exact congrArg some hval
      simp [hj, h1]
  by_cases hb : t = b
  · have := hy hb a ha
    unfold wpQuiet at this ⊢
    simp only [Region.wanted, hyl, hb, beq_self_eq_true, if_true] at this ⊢
    exact this
  · have hb' : t = !b := by revert hb; cases t <;> cases b <;> decide
    have := hn hb' _ (ha.put hd undef)
    unfold wpQuiet
    have hw : (some t == some b) = false := by revert hb; cases t <;> cases b <;> decide
    simp only [Region.wanted, hyl, hw]
    exact this
theorem WQ.gy {j dj : Nat} {b t : Bool} (hj : (ops[j]?).bind (·.dst) = some dj) (ht : look f dj = some (.bool t)) (hd : Nat.blt d n.n = true) (e : t = b)
  (hy : WQ P n ops Q w (⟨some d, op, ty, pos, aft, none⟩ :: rest) f) : WQ P n ops Q w (⟨some d, op, ty, pos, aft, some (j, b)⟩ :: rest) f :=
 WQ.gd hj ht hd (fun _ => hy) (fun h => by rw [e] at h; cases b <;> cases h)
theorem WQ.gn {j dj : Nat} {b t : Bool} (hj : (ops[j]?).bind (·.dst) = some dj) (ht : look f dj = some (.bool t)) (hd : Nat.blt d n.n = true) (e : t = !b)
  (hn : WQ P n ops Q w rest ((d, undef) :: f)) : WQ P n ops Q w (⟨some d, op, ty, pos, aft, some (j, b)⟩ :: rest) f :=
 WQ.gd hj ht hd (fun h => by rw [e] at h; cases b <;> cases h) (fun _ => hn)
theorem WQ.gu {j dj : Nat} {b : Bool} (hj : (ops[j]?).bind (·.dst) = some dj) (ht : look f dj = some undef) (hd : Nat.blt d n.n = true)
  (hn : WQ P n ops Q w rest ((d, undef) :: f)) : WQ P n ops Q w (⟨some d, op, ty, pos, aft, some (j, b)⟩ :: rest) f := by
 intro a ha
 have hyl := yielded_undef ha hj ht
 have := hn _ (ha.put hd undef)
 unfold wpQuiet
 simp only [Region.wanted, hyl]
 exact this
/-- a call that only reads -/
theorem WQ.c1 {F : FuncId} {xs : List Operand} {ats : Array TypeId} {vs : List Value} (hb : HasBody P F) (hx : evs f xs = some vs) (hd : Nat.blt d n.n = true)
  (hc : ∀ m, Calls P F vs.toArray (w.drewN m) fun e w' => e = .returned v ∧ ∃ k, w' = w.drewN k) (k : WQ P n ops Q w rest ((d, v) :: f)) :
  WQ P n ops Q w (⟨some d, .call ⟨.value (.func F), xs.toArray, ats⟩, ty, pos, aft, none⟩ :: rest) f := by
 intro a ha
 unfold wpQuiet
 rw [if_pos (by simp [Region.wanted])]
 refine ⟨v, ?_, k _ (ha.put hd v)⟩
 rintro w' ⟨m, rfl⟩
 unfold Oper.quietAt
 rw [run_callOp hb ha.agr hx]
 exact ⟨rfl, hc m⟩
end
end
/-- a test whose outcome is known otherwise -/
theorem Pure.bis {P : Program} {op : Op} {f : Fr} {s : Bool} (t : Bool) (h : Pure P op f (.bool s)) (e : s = t) : Pure P op f (.bool t) := e ▸ h
/-- a number spelled otherwise -/
theorem Pure.iis {P : Program} {op : Op} {f : Fr} {k : IntKind} {s : Int} (t : Int) (h : Pure P op f (.int k s)) (e : s = t) : Pure P op f (.int k t) := e ▸ h
/-- all of one cell -/
def ones : List Value → Bool
 | [] => true
 | v :: r => v.oneCell' && ones r
theorem ones_mem : ∀ {l : List Value}, ones l = true → ∀ v ∈ l, v.oneCell' = true
 | [], _, v, hv => by cases hv
 | u :: r, h, v, hv => by
  simp only [ones, Bool.and_eq_true] at h
  rcases List.mem_cons.1 hv with rfl | hv
  ·
   exact h.1
  ·
   exact ones_mem h.2 v hv
/-- parts put into a struct's cells, a cell each -/
def put1 : List Value → List (Nat × Value) → List Value
 | z, [] => z
 | z, (i, v) :: r => put1 (z.set i v) r
theorem pR {p : Prop} (h : p := by simp only [put1, List.map, List.zip, List.zipWith, List.set, List.replicate] <;> rfl) : p := h
theorem pS {p : Prop} (h : p := by simp only [put1, List.map, List.zip, List.zipWith, List.set] <;> rfl) : p := h
theorem pZ {p : Prop} (h : p := by simp only [put1, List.map, List.zip, List.zipWith] <;> rfl) : p := h
/-- the i-th field is the i-th cell, for the first n -/
def idPlaces : Nat → Nat → List (Nat × Nat) → Bool
 | _, 0, l => l.isEmpty
 | k, n + 1, p :: l => Nat.beq p.1 k && Nat.beq p.2 1 && idPlaces (k + 1) n l
 | _, _ + 1, [] => false
theorem idPlaces_at : ∀ (n k : Nat) (l : List (Nat × Nat)), idPlaces k n l = true → ∀ i, i < n → l[i]? = some (k + i, 1)
 | 0, _, _, _, _, hi => by omega
 | n + 1, k, [], h, _, _ => by cases h
 | n + 1, k, p :: l, h, i, hi => by
  simp only [idPlaces, Bool.and_eq_true] at h
  obtain ⟨⟨h1, h2⟩, h3⟩ := h
  cases i with
  | zero =>
   have e1 := Nat.eq_of_beq_eq_true h1
   have e2 := Nat.eq_of_beq_eq_true h2
   simp; exact Prod.ext e1 e2
  | succ i =>
   have := idPlaces_at n (k + 1) l h3 i oO
   rw [List.getElem?_cons_succ, this]
   congr 2; omega
theorem oneCells {v : Value} (h : v.oneCell' = true) : v.cells = #[v] := by cases v <;> first | rfl | cases h
def idxOk (n : Nat) : List (Nat × Value) → Bool
 | [] => true
 | (i, v) :: r => Nat.blt i n && v.oneCell' && idxOk n r
theorem fill_put1 {pl : List (Nat × Nat)} {n : Nat} (hp : idPlaces 0 n pl = true) : ∀ (parts : List (Nat × Value)) (z : List Value), z.length = n → idxOk n parts = true → Instr.fill (pl.toArray[·]?) z.toArray parts = some (put1 z parts).toArray
 | [], z, _, _ => rfl
 | (i, v) :: r, z, hz, ho => by
  simp only [idxOk, Bool.and_eq_true] at ho
  obtain ⟨⟨h1, h2⟩, h3⟩ := ho
  have hi : i < n := by simpa [Nat.blt_eq] using h1
  have hpl := idPlaces_at n 0 pl hp i hi
  have hc := oneCells h2
  have ih := fill_put1 hp r (z.set i v) (by simpa using hz) h3
  simp only [Nat.zero_add] at hpl
  have hpl' : pl.toArray[i]? = some (i, 1) := by simpa using hpl
  have hf : (#[v].zipIdx.foldl (fun cs (x : Value × Nat) => cs.setIfInBounds (i + x.2) x.1) z.toArray) = (z.set i v).toArray := by simp [Array.zipIdx]
  refine Eq.trans ?_ ih
  conv => lhs; unfold Instr.fill
  simp only [hpl', hc]
  rw [if_neg (by simp; omega)]
  exact congrArg (fun c => Instr.fill (pl.toArray[·]?) c r) hf
theorem Pure.buildL {P : Program} {f : Fr} {t : TypeId} {ps : List (Nat × Operand)} {vs zl l : List Value} {pl : List (Nat × Nat)} (hb : P.built t = fun parts => Instr.fill (pl.toArray[·]?) zl.toArray parts) (hp : idPlaces 0 zl.length pl = true)
  (hx : evs f (ps.map (·.2)) = some vs) (ho : idxOk zl.length ((ps.map (·.1)).zip vs) = true) (hl : put1 zl ((ps.map (·.1)).zip vs) = l) : Pure P (.build t ps.toArray) f (.agg l.toArray) :=
 Pure.build hx (by rw [hb, ← hl]; exact fill_put1 hp _ _ rfl ho)
theorem WL.stL {P : Program} {n : Sh} {f : Fr} {ops : Array Oper} {Q : Exit → Fr → World → Prop} {w : World} {rest : List Oper} {ty : Nat} {pos : String} {aft : Array Edge} {t tb : TypeId} {x y : Operand} {b : Nat} {old l : List Value} (hx : evo f x = some (.pointer (some ⟨b, 0, none⟩))) (hy : evo f y = some (.agg l.toArray)) (hb : Blk w b old.toArray tb)
  (hi : (P.info? t).map (·.size) = some l.length) (ho : old.length = l.length) (h1 : ones l = true)
  (k : ∀ w1, Blk w1 b l.toArray tb → Upd b w w1 → w1.heap.size = w.heap.size → WL P n ops Q rest f w1) :
  WL P n ops Q (⟨none, .store t x y, ty, pos, aft, none⟩ :: rest) f w :=
 WL.stA hx hy hb (by simpa using hi) (by simpa using ho) (by simpa using ones_mem h1) k
theorem ldRow {P : Program} {w : World} {b : Nat} {cs : Array Value} {t tb : TypeId} {dd : TypeDesc} (hb : Blk w b cs tb) (hu : P.underlying t = some dd)
  (hd : (match dd with | .struct _ | .array _ _ => true | _ => false) = true) (hi : (P.info? t).map (·.size) = some cs.size) : (loadVar t ⟨b, 0, none⟩).run P w = .ok (.agg cs) w := run_loadVar_row w b tb t cs (0, 0) dd hb hu hd hi
theorem pn_post {P : Program} {fn : Func} {R : Ending → World → Prop} {c : List PanicEntry} {f g : Fr} {w : World} (h : Post P fn R (.panic c) f w) : Post P fn R (.panic c) g w := h
theorem upon_post {P : Program} {o : Oper} {a : Act} {w : World} {K : Act → World → Prop} {Q Q' : Exit → Act → World → Prop} (h : o.wp P a w K Q) (hq : ∀ e a w, e ≠ .normal → Q e a w → Q' e a w) : o.wp P a w K Q' := by
 unfold Oper.wp at *
 generalize (execOp a.eval o).run P w = r at *
 cases r with
 | ok m w' =>
  cases m <;> simp only [Oper.upon] at h ⊢ <;>
   first
    | exact h
    | exact Calls.mono h (fun e w'' he => by
      cases e with
      | returned v => exact he
      | panicked c => exact hq _ _ _ (by simp) he
      | outgrown => obtain ⟨a', w3, h3⟩ := he; exact ⟨a', w3, hq _ _ _ (by simp) h3⟩)
 | halt x w' => cases x <;> simp only [Oper.upon] at h ⊢ <;> first | exact h | exact hq _ _ _ (by simp) h
def WY (P : Program) (n : Sh) (ops : Array Oper) (Q : Exit → Fr → World → Prop) (fuel : Nat) (listed : Array Bool) (f : Fr) (w : World) : Prop := ∀ a, Rep n f a → wpAny P .any ops (lift n Q) fuel listed a w
section
variable {P : Program} {n : Sh} {f : Fr} {ops : Array Oper} {Q : Exit → Fr → World → Prop} {w : World} {fuel : Nat} {listed : Array Bool}
theorem W.regY {id : Nat} {l : List Oper} (N : Nat) (hN : l.length = N) (hm : P.follows .mixedOrders = true) (h : ∀ w1, Drew w w1 → WY P n l.toArray Q N (Array.replicate N false) f w1) : W P n (.region id l.toArray true) Q f w :=
 fun a ha => wp_region_any hm (by
  subst hN
  have := h (w.drewN 1) ⟨1, rfl⟩ a ha
  rw [show l.toArray.size = l.length by simp]
  exact this)
theorem WY.take (i : Nat) {d ty : Nat} {pos : String} {aft : Array Edge} {op : Op} {v : Value} (hi : ops[i]? = some ⟨some d, op, ty, pos, aft, none⟩) (hs : Region.noSelect ops = true) (hf : Region.free .any ops listed i = true)
  (hr : (Region.ready .any ops listed).contains i = true) (hQ : ∀ c f w, Q (.panic c) f w → Q (.panic c) [] w) (hp : Pure P op f v) (hd : Nat.blt d n.n = true)
  (k : WY P n ops Q fuel (listed.setIfInBounds i true) ((d, v) :: f) w) : WY P n ops Q (fuel + 1) listed f w := by
 intro a ha
 refine wpAny_take hi hs hf hr ?_ (.inl ⟨by simp [Region.wanted], fun w => hp _ ha.agr _ _ _ _ _ w⟩) (k _ (ha.put hd v))
 rintro c b w' ⟨g, hg, hq⟩
 have hg1 := hg.1
 have hg2 := hg.2.1
 refine ⟨[], ⟨?_, ?_, fun i u hu => by cases hu⟩, hQ c g w' hq⟩
 ·
  exact hg1
 ·
  simpa [Act.put] using hg2
def BrAll (P : Program) (n : Sh) (ops : Array Oper) (Q : Exit → Fr → World → Prop) (fuel : Nat) (listed : Array Bool) (f : Fr) (w : World) : List Nat → Prop
 | [] => True
 | i :: r => (∃ o, ops[i]? = some o ∧ WL P n ops (nx (fun f' w' => WY P n ops Q fuel (listed.setIfInBounds i true) f' w') Q) [o] f w) ∧ BrAll P n ops Q fuel listed f w r
theorem BrAll.mem : ∀ {rs : List Nat}, BrAll P n ops Q fuel listed f w rs → ∀ i ∈ rs, ∃ o, ops[i]? = some o ∧ WL P n ops (nx (fun f' w' => WY P n ops Q fuel (listed.setIfInBounds i true) f' w') Q) [o] f w
 | [], _, _, h => by cases h
 | j :: r, h, i, hi => by
  rcases List.mem_cons.1 hi with rfl | hi
  ·
   exact h.1
  ·
   exact BrAll.mem h.2 i hi
theorem WY.br (rs : List Nat) (hr : Region.ready .any ops listed = rs) (hne : rs.isEmpty = false) (h : BrAll P n ops Q fuel listed f w rs) : WY P n ops Q (fuel + 1) listed f w := by
 intro a ha
 refine wpAny_all hr (by cases rs with | nil => cases hne | cons _ _ => simp) fun i hi => ?_
 obtain ⟨o, ho, hw⟩ := h.mem i hi
 have := hw a ha
 unfold wpOp
 simp only [ho]
 have conv : ∀ (e : Exit) (a : Act) (w : World), lift n (nx (fun f' w' => WY P n ops Q fuel (listed.setIfInBounds i true) f' w') Q) e a w → Exit.then (wpAny P .any ops (lift n Q) fuel (listed.setIfInBounds i true)) (lift n Q) e a w := by
  rintro e a w ⟨g, hg, hq⟩
  cases e with
  | normal => exact hq a hg
  | _ => exact ⟨g, hg, hq⟩
 unfold wpList at this
 split
 ·
  next hwt =>
  rw [if_pos hwt] at this
  refine this.imp (fun h => ?_) fun ⟨h1, a', w', h2⟩ => ⟨h1, a', w', conv _ _ _ h2⟩
  have h' : o.wp P a w (wpAny P .any ops (lift n Q) fuel (listed.setIfInBounds i true)) (lift n (nx (fun f' w' => WY P n ops Q fuel (listed.setIfInBounds i true) f' w') Q)) :=
   Oper.wp_mono (fun a w h => conv .normal a w h) h
  exact upon_post h' fun e a w he h => by
   cases e with
   | normal => exact absurd rfl he
   | _ => exact conv _ a w h
 ·
  next hwt =>
  rw [if_neg hwt] at this
  exact conv .normal _ _ this
/-- the same, what is closed being reckoned at the place of use -/
theorem WY.tk (i : Nat) {d ty : Nat} {pos : String} {aft : Array Edge} {op : Op} {v : Value} (hi : ops[i]? = some ⟨some d, op, ty, pos, aft, none⟩) (hp : Pure P op f v) (hd : Nat.blt d n.n = true)
  (k : WY P n ops Q fuel (listed.setIfInBounds i true) ((d, v) :: f) w) (hs : Region.noSelect ops = true := by kernel_rfl) (hf : Region.free .any ops listed i = true := by kernel_rfl)
  (hr : (Region.ready .any ops listed).contains i = true := by kernel_rfl) (hQ : ∀ c f w, Q (.panic c) f w → Q (.panic c) [] w := by first | exact fun c f w h => pn_post h | exact fun c f w h => h) : WY P n ops Q (fuel + 1) listed f w :=
 WY.take i hi hs hf hr hQ hp hd k
theorem WY.br1 (i : Nat) {o : Oper} (hi : ops[i]? = some o) (h : WL P n ops (nx (fun f' w' => WY P n ops Q fuel (listed.setIfInBounds i true) f' w') Q) [o] f w) (hr : Region.ready .any ops listed = [i] := by kernel_rfl) : WY P n ops Q (fuel + 1) listed f w :=
 WY.br [i] hr rfl ⟨⟨_, hi, h⟩, trivial⟩
theorem WY.br2 (i : Nat) {o : Oper} (hi : ops[i]? = some o) (j : Nat) {o2 : Oper} (hj : ops[j]? = some o2) (h : WL P n ops (nx (fun f' w' => WY P n ops Q fuel (listed.setIfInBounds i true) f' w') Q) [o] f w)
  (h2 : WL P n ops (nx (fun f' w' => WY P n ops Q fuel (listed.setIfInBounds j true) f' w') Q) [o2] f w) (hr : Region.ready .any ops listed = [i, j] := by kernel_rfl) : WY P n ops Q (fuel + 1) listed f w :=
 WY.br [i, j] hr rfl ⟨⟨_, hi, h⟩, ⟨_, hj, h2⟩, trivial⟩
theorem WY.done (hr : Region.ready .any ops listed = []) (h : Q .normal f w) : WY P n ops Q fuel listed f w := fun _ ha => wpAny_done hr ⟨f, ha, h⟩ fuel
end
attribute [irreducible] Post W WL WQ WS WY
end
section
section
variable {P : Program} {n : Sh} {f : Fr}
/-- where a slice's cells are; whatever, if it is nil -/
def pA (p : Option Addr) : Addr := p.getD ⟨0, 0, none⟩
/-- a slice of this base reads as these bytes -/
structure BytesAt (w : World) (p : Option Addr) (l : List UInt8) : Prop where
 isp : 0 < l.length → p = some (pA p)
 cells : ∀ j (h : j < l.length), w.cell? ((pA p).add j) = some (.int .u8 (l[j].toNat : Int))
theorem BytesAt.nil (w : World) : BytesAt w none [] := ⟨fun h => by simp at h, fun j h => by simp at h⟩
theorem add_zero_addr (a : Addr) : a.add 0 = a := by unfold Addr.add; split <;> simp_all
theorem add_block (a : Addr) (k : Nat) : (a.add k).block = a.block := by unfold Addr.add; split <;> simp_all
theorem add_add (a : Addr) (j k : Nat) : (a.add j).add k = a.add (j + k) := by
 unfold Addr.add
 split <;> simp_all <;> (try split) <;> simp_all <;> omega
theorem BytesAt.below {w w1 : World} {B : Nat} {p : Option Addr} {l : List UInt8} (h : BytesAt w p l) (hb : Below B w w1) (hp : 0 < l.length → (pA p).block < B) : BytesAt w1 p l :=
 ⟨h.isp, fun j hj => by rw [hb.cell (by rw [add_block]; exact hp oO)]; exact h.cells j hj⟩
theorem BytesAt.upd {w w1 : World} {b : Nat} {p : Option Addr} {l : List UInt8} (h : BytesAt w p l) (hu : Upd b w w1) (hp : 0 < l.length → (pA p).block ≠ b) : BytesAt w1 p l :=
 ⟨h.isp, fun j hj => by rw [World.cell?_of_block (w := w) (hu.other _ (by rw [add_block]; exact hp oO))]; exact h.cells j hj⟩
theorem bup {w w1 : World} {b : Nat} {p : Option Addr} {l : List UInt8} (h : BytesAt w p l) (hu : Upd b w w1) (hp : 0 < l.length → (pA p).block < b) : BytesAt w1 p l := BytesAt.upd h hu (fun h0 => Nat.ne_of_lt (hp h0))
theorem BytesAt.drewN {w : World} {p : Option Addr} {l : List UInt8} (h : BytesAt w p l) (m : Nat) : BytesAt (w.drewN m) p l := ⟨h.isp, h.cells⟩
theorem BytesAt.lt {w : World} {p : Option Addr} {l : List UInt8} (h : BytesAt w p l) (hl : 0 < l.length) : (pA p).block < w.heap.size := by
 have := h.cells 0 hl
 unfold World.cell? at this
 rw [add_block] at this
 cases hb : w.heap[(pA p).block]? with
 | none => rw [hb] at this; cases this
 | some o => exact (Array.getElem?_eq_some_iff.1 hb).1
/-- the address of a byte -/
theorem Pure.ixb {tx e : TypeId} {x y : Operand} {p : Option Addr} {l c : Nat} {i : Int} {k : IntKind} (hu : P.underlying tx = some (.slice e)) (hs : ∀ w, (sizeOf e).run P w = .ok 1 w) (hx : evo f x = some (.slice p l c))
  (hi : evo f y = some (.int k i)) (hp : p = some (pA p)) (j : Nat) (e' : i = j) (hj : j < l) : Pure P (.indexAddr tx x y) f (.pointer (some ((pA p).add j))) := by
 have h := Pure.ixa (P := P) (f := f) (p := pA p) (c := c) hu hs (hx.trans (by rw [← hp])) hi j e' hj
 rwa [Nat.mul_one] at h
theorem push_bytes (l : List UInt8) : (l.map fun b => (b.toNat : Int)).foldl (fun (r : ByteArray) n => r.push (UInt8.ofNat n.toNat)) ByteArray.empty = bs l := by
 have key : ∀ (l m : List UInt8), (l.map fun b => (b.toNat : Int)).foldl (fun (r : ByteArray) n => r.push (UInt8.ofNat n.toNat)) (bs m) = bs (m ++ l) := by
  intro l
  induction l with
  | nil => intro m; simp
  | cons c r ih =>
   intro m
   have e : (bs m).push (UInt8.ofNat ((c.toNat : Int)).toNat) = bs (m ++ [c]) := by
    rw [Int.toNat_natCast, UInt8.ofNat_toNat]
    apply ByteArray.ext
    simp [bs, ByteArray.push]
   rw [List.map_cons, List.foldl_cons, e, ih, List.append_assoc]; rfl
 have := key l []
 rw [List.nil_append] at this
 exact this
/-- bytes as a string -/
theorem Rd.b2s {tx ty e : TypeId} {x : Operand} {p : Option Addr} {l : List UInt8} {c : Nat} {w : World} (hu : P.underlying tx = some (.slice e)) (he : P.underlying e = some (.int .u8)) (ht : P.underlying ty = some .string)
  (hx : evo f x = some (.slice p l.length c)) (hb : BytesAt w p l) : Rd P (.convert tx ty x) f w (.string (bs l)) := fun ρ hρ d ty' pos aft g => by
 have hv := hρ _ _ hx
 have key : (convert tx ty (.slice p l.length c)).run P w = .ok (.string (bs l)) w := by
  cases p with
  | none =>
   have h0 : l = [] := by
    cases l with
    | nil => rfl
    | cons a r => have := hb.isp (by simp); cases this
   subst h0
   simp [convert, run_underlying hu, run_underlying he, run_underlying ht, Conv.bytesToString]
   rfl
  | some a =>
   have hl : (loadCells a l.length).run P w = .ok ((l.map fun b => (b.toNat : Int)).map (Value.int .u8)).toArray w := by
    have := run_loadCells_list (P := P) w a ((l.map fun b => (b.toNat : Int)).map (Value.int .u8)) (fun j v hj => by
     simp only [List.getElem?_map, Option.map_eq_some_iff] at hj
     obtain ⟨z, ⟨b, hb1, rfl⟩, rfl⟩ := hj
     obtain ⟨h1, rfl⟩ := List.getElem?_eq_some_iff.1 hb1
     exact hb.cells j h1)
    simpa using this
   rw [run_convert_bytes_string w tx ty e _ _ _ hu he ht, run_bytesToString w a l.length c _ hl, push_bytes]
 unfold execOp
 simp only [hv, Sem.run_bind, key, Result.andThen_ok, Sem.run_pure]
theorem BytesAt.one {w : World} {b : Nat} {x : Int} {t : TypeId} {c : UInt8} (h : Blk w b #[.int .u8 x] t) (e : x = (c.toNat : Int)) : BytesAt w (some ⟨b, 0, none⟩) [c] :=
 ⟨fun _ => rfl, fun j hj => by
  obtain rfl : j = 0 := by simp at hj; omega
  show w.cell? ((⟨b, 0, none⟩ : Addr).add 0) = _
  rw [add_zero_addr, h.cell 0, e]; rfl⟩
/-- a slice made of its parts, a cell each -/
theorem fill_seq {n : Nat} : ∀ (parts : List (Nat × Value)) (z : List Value), z.length = n → idxOk n parts = true → Instr.fill (fun i => some (i * 1, 1)) z.toArray parts = some (put1 z parts).toArray
 | [], z, _, _ => rfl
 | (i, v) :: r, z, hz, ho => by
  simp only [idxOk, Bool.and_eq_true] at ho
  obtain ⟨⟨h1, h2⟩, h3⟩ := ho
  have hi : i < n := by simpa [Nat.blt_eq] using h1
  have hc := oneCells h2
  have ih := fill_seq r (z.set i v) (by simpa using hz) h3
  have hf : (#[v].zipIdx.foldl (fun cs (x : Value × Nat) => cs.setIfInBounds (i * 1 + x.2) x.1) z.toArray) = (z.set i v).toArray := by simp [Array.zipIdx]
  refine Eq.trans ?_ ih
  conv => lhs; unfold Instr.fill
  simp only [hc]
  rw [if_neg (by simp; omega)]
  exact congrArg (fun c => Instr.fill (fun i => some (i * 1, 1)) c r) hf
theorem WL.bsl {ops : Array Oper} {Q : Exit → Fr → World → Prop} {w : World} {rest : List Oper} {d ty : Nat} {pos : String} {aft : Array Edge} {t e : TypeId} {len : Nat} {ps : List (Nat × Operand)} {vs l : List Value} {z : Value}
  (hu : P.underlying t = some (.slice e)) (hs : ∀ w, (sizeOf e).run P w = .ok 1 w) (hz : ∀ w, (zeroValue e).run P w = .ok z w) (hz1 : z.oneCell' = true) (hl0 : Nat.blt 0 len = true) (hl1 : Nat.ble len 1000 = true)
  (hx : evs f (ps.map (·.2)) = some vs) (ho : idxOk len ((ps.map (·.1)).zip vs) = true) (hl : put1 (List.replicate len z) ((ps.map (·.1)).zip vs) = l) (hd : Nat.blt d n.n = true)
  (k : ∀ b w1, b = w.heap.size → Blk w1 b l.toArray e → Upd b w w1 → w1.heap.size = b + 1 → WL P n ops Q rest ((d, .slice (some ⟨b, 0, none⟩) len len) :: f) w1) :
  WL P n ops Q (⟨some d, .buildSlice t len ps.toArray, ty, pos, aft, none⟩ :: rest) f w := by
 have h0 : 0 < len := by simpa [Nat.blt_eq] using hl0
 have h1 : len ≤ 1000 := by simpa using hl1
 refine WL.run hd (w' := w.alloc (.cells l.toArray e)) (v := .slice (some ⟨w.heap.size, 0, none⟩) len len) (fun ρ hρ => ?_) (k _ _ rfl (Blk.alloc _ _ _) (Upd.alloc _ _) (by simp))
 have e1 := evs_map hρ _ _ hx
 have e2 : (ps.toArray.map fun (i, x) => (i, ρ x)).toList = (ps.map (·.1)).zip vs := by
  rw [← e1]
  simp only [List.map_map, Array.toList_map]
  clear hx ho hl e1
  induction ps with
  | nil => rfl
  | cons p r ih => simpa using ih
 have hzc := oneCells hz1
 have hcells : (Array.range (len * 1)).map (fun x => (#[z] : Array Value)[x % (#[z] : Array Value).size]!) = (List.replicate len z).toArray := by
  apply Array.ext
  ·
   simp
  ·
   intro i h1 h2; simp [Nat.mod_one]
 have hfill := fill_seq (n := len) ((ps.map (·.1)).zip vs) (List.replicate len z) (by simp) ho
 rw [hl] at hfill
 have hfill' : Instr.fill (fun i => some (i, 1)) (List.replicate len z).toArray ((ps.map (·.1)).zip vs) = some l.toArray := by simpa using hfill
 have hcells' : (Array.range len).map (fun x => (#[z] : Array Value)[x % (#[z] : Array Value).size]!) = (List.replicate len z).toArray := by simpa using hcells
 have hne : len ≠ 0 := by omega
 have hbig : ¬ 16777216 < len := by omega
 unfold execOp
 simp only [Instr.buildSlice, Sem.run_bind, run_underlying hu, hs, Result.andThen_ok, e2, Nat.mul_one]
 rw [if_neg oO, if_neg hne]
 simp only [Sem.run_bind, hz, hzc, Sem.run_pure, Result.andThen_ok, hcells', hfill']
 simp [newRow]
end
end
section
/-- below block B nothing has turned but block r -/
structure Touch (B r : Nat) (w w1 : World) : Prop where
 os : w1.os = w.os
 tape : w1.tape = w.tape
 output : w1.output = w.output
 size : w.heap.size ≤ w1.heap.size
 block : ∀ k, k < B → k ≠ r → w1.heap[k]? = w.heap[k]?
theorem Touch.refl (B r : Nat) (w : World) : Touch B r w w := ⟨rfl, rfl, rfl, Nat.le_refl _, fun _ _ _ => rfl⟩
theorem Touch.trans {B r : Nat} {a b c : World} (h : Touch B r a b) (k : Touch B r b c) : Touch B r a c :=
 ⟨k.os.trans h.os, k.tape.trans h.tape, k.output.trans h.output, Nat.le_trans h.size k.size, fun i hi hr => (k.block i hi hr).trans (h.block i hi hr)⟩
theorem Touch.mono {B B' r : Nat} {a b : World} (h : Touch B r a b) (hB : B' ≤ B) : Touch B' r a b := ⟨h.os, h.tape, h.output, h.size, fun i hi hr => h.block i oO hr⟩
theorem Touch.of_below {B r : Nat} {a b : World} (h : Below B a b) : Touch B r a b := ⟨h.os, h.tape, h.output, h.size, fun i hi _ => h.block i hi⟩
theorem Touch.of_drew {B r : Nat} {a b : World} (h : Drew a b) : Touch B r a b := Touch.of_below (h.below (Below.refl _ _))
theorem Touch.of_upd {B r : Nat} {a b : World} (h : Upd r a b) : Touch B r a b := ⟨h.os, h.tape, h.output, h.size, fun i _ hr => h.other i hr⟩
theorem Touch.of_new {B r c : Nat} {a b : World} (h : Upd c a b) (hc : B ≤ c) : Touch B r a b := ⟨h.os, h.tape, h.output, h.size, fun i hi _ => h.other i oO⟩
/-- .. where block r is new itself -/
theorem Touch.below {B B' r : Nat} {a b : World} (h : Touch B' r a b) (hB : B ≤ B') (hr : B ≤ r) : Below B a b := ⟨h.os, h.tape, h.output, h.size, fun i hi => h.block i oO oO⟩
theorem Blk.touch {B r c : Nat} {w w1 : World} {cs : Array Value} {t : TypeId} (h : Blk w c cs t) (hT : Touch B r w w1) (hc : c < B) (hr : c ≠ r) : Blk w1 c cs t := (hT.block c hc hr).trans h
theorem BytesAt.touch {B r : Nat} {w w1 : World} {p : Option Addr} {l : List UInt8} (h : BytesAt w p l) (hT : Touch B r w w1) (hp : 0 < l.length → (pA p).block < B ∧ (pA p).block ≠ r) : BytesAt w1 p l :=
 ⟨h.isp, fun j hj => by
  obtain ⟨h1, h2⟩ := hp oO
  rw [World.cell?_of_block (w := w) (hT.block _ (by rw [add_block]; exact h1) (by rw [add_block]; exact h2))]; exact h.cells j hj⟩
theorem BytesAt.drew {w w1 : World} {p : Option Addr} {l : List UInt8} (h : BytesAt w p l) (d : Drew w w1) : BytesAt w1 p l := by obtain ⟨m, rfl⟩ := d; exact h.drewN m
section
variable {P : Program} {n : Sh} {f : Fr}
/-- a slice of the call's own, one cell an element, from block B on -/
def Own (e : TypeId) (B : Nat) (w : World) (v : Value) (xs : List Value) : Prop := w.ownsRow B e 1 v xs.length xs
theorem Own.nil (e : TypeId) (B : Nat) (w : World) : Own e B w (.slice none 0 0) [] := World.ownsRow_nil w B e 1
theorem Own.slice {e : TypeId} {B : Nat} {w : World} {v : Value} {xs : List Value} (h : Own e B w v xs) : ∃ p c, v = .slice p xs.length c := by
 obtain ⟨hl, h⟩ := h
 rcases h with ⟨rfl, h0⟩ | ⟨g, cap, cur, rfl, -⟩
 ·
  exact ⟨none, 0, by rw [h0]⟩
 ·
  exact ⟨_, cap, rfl⟩
theorem Own.touch {e : TypeId} {B r : Nat} {w w1 : World} {v : Value} {xs : List Value} (h : Own e B w v xs) (hu : Upd r w w1) (hr : r < B) : Own e B w1 v xs := by
 obtain ⟨hl, h⟩ := h
 refine ⟨hl, h.imp id fun ⟨g, cap, cur, h1, h2, h3, h4⟩ => ⟨g, cap, cur, h1, h2, (hu.other g oO).trans h3, h4⟩⟩
theorem Own.new {e : TypeId} {B b : Nat} {w w1 : World} {v : Value} {xs : List Value} (h : Own e B w v xs) (eb : b = w.heap.size) (hu : Upd b w w1) : Own e B w1 v xs := by
 obtain ⟨hl, h⟩ := h
 refine ⟨hl, h.imp id fun ⟨g, cap, cur, h1, h2, h3, h4⟩ => ⟨g, cap, cur, h1, h2, (hu.other g (by have := (Array.getElem?_eq_some_iff.1 h3).1; omega)).trans h3, h4⟩⟩
theorem Own.below {e : TypeId} {B : Nat} {w w1 : World} {v : Value} {xs : List Value} (h : Own e B w v xs) (hb : Below w.heap.size w w1) : Own e B w1 v xs := by
 obtain ⟨hl, h⟩ := h
 refine ⟨hl, h.imp id fun ⟨g, cap, cur, h1, h2, h3, h4⟩ => ⟨g, cap, cur, h1, h2, (hb.block g (Array.getElem?_eq_some_iff.1 h3).1).trans h3, h4⟩⟩
theorem Own.drew {e : TypeId} {B : Nat} {w w1 : World} {v : Value} {xs : List Value} (h : Own e B w v xs) (d : Drew w w1) : Own e B w1 v xs := by obtain ⟨m, rfl⟩ := d; exact h
/-- an own row of bytes reads as bytes -/
theorem Own.bytes {e : TypeId} {B : Nat} {w : World} {v : Value} {l : List UInt8} (h : Own e B w v (byteVals l)) : ∃ p c, v = .slice p l.length c ∧ BytesAt w p l ∧ (0 < l.length → B ≤ (pA p).block) := by
  have hbl : (byteVals l).length = l.length := by simp [byteVals]
  obtain ⟨hl, h⟩ := h
  rcases h with ⟨rfl, h0⟩ | ⟨g, cap, cur, rfl, hB, hg, hnc, hcm, hcs, htake⟩
  · obtain rfl : l = [] := by rw [hbl] at h0; exact List.length_eq_zero_iff.1 h0
    exact ⟨none, 0, rfl, BytesAt.nil w, fun h => by simp at h⟩
  · rw [hbl] at hnc htake ⊢
    refine ⟨_, cap, rfl, ⟨fun _ => rfl, fun j hj => ?_⟩, fun _ => hB⟩
    have e1 : (pA (some ⟨g, 0, none⟩)).add j = ⟨g, j, none⟩ := by
      show (⟨g, 0, none⟩ : Addr).add j = _
      unfold Addr.add; split
      · next h => subst h; rfl
      · simp
    have hc := Lib.cell_of_heap hg j
    rw [e1, hc, ← Array.getElem?_toList]
    have h2 : (cur.toList.take (l.length * 1))[j]? = (byteVals l)[j]? := by rw [htake]
    rw [List.getElem?_take, if_pos oO] at h2
    rw [h2]
    simp [byteVals, hj]
theorem WL.panic {ops : Array Oper} {Q : Exit → Fr → World → Prop} {w : World} {rest : List Oper} {d : Option Tmp} {ty : Nat} {pos : String} {aft : Array Edge} {x : Operand} {t : TypeId} {v : Value}
  (hx : evo f x = some (.iface t v)) (k : Q (.panic [{ v := .iface t v, recovered := false }]) f w) : WL P n ops Q (⟨d, .panic x, ty, pos, aft, none⟩ :: rest) f w :=
 WL.pn (fun ρ hρ => by simp [execOp, hρ _ _ hx, Instr.panic]) k
/-- what a call that may panic with an error's number comes to -/
def Ends {α : Type} (E : TypeId) (res : Except Int α) (V : α → Value) (S : α → World → Prop) (S' : World → Prop) (e : Ending) (w : World) : Prop :=
 match res with
 | .ok a => e = .returned (V a) ∧ S a w
 | .error k => e = .panicked [{ v := .iface E (.int .i64 k), recovered := false }] ∧ S' w
theorem Ends.ok {α : Type} {E : TypeId} {res : Except Int α} {V : α → Value} {S : α → World → Prop} {S' : World → Prop} {e : Ending} {w : World} (a : α) (h : res = .ok a) (he : e = .returned (V a)) (hs : S a w) : Ends E res V S S' e w := by
 unfold Ends; rw [h]; exact ⟨he, hs⟩
end
end
section
theorem W.norm {P : Program} {fn : Func} {R : Ending → World → Prop} {f : Fr} {w : World} (h : Post P fn R .ret f w) : Post P fn R .normal f w := by unfold Post at *; exact h
/-- one result, which lies in memory -/
theorem W.retc1 {P : Program} {fn : Func} {R : Ending → World → Prop} {f : Fr} {w : World} {t : Tmp} {ty : TypeId} {b : Addr} {v : Value} (hr : fn.results = #[.cell t ty])
  (ht : look f t = some (.pointer (some b))) (hv : (loadVar ty b).run P w = .ok v w) (h : R (.returned v) w) : Post P fn R .ret f w := by
 unfold Post
 exact ⟨_, fun tmps hh => by
  have e1 := hh _ _ ht
  simp only [Array.getD_eq_getD_getElem?] at e1
  simp [results, hr, e1, asAddr, hv], h⟩
section
variable {P : Program} {n : Sh} {f : Fr}
/-- where a part of a slice stands -/
def pPart (p : Option Addr) (c a : Nat) : Option Addr := if c = a then p else p.map (·.add a)
theorem Pure.slb {tx e : TypeId} {x y z : Operand} {p : Option Addr} {m c : Nat} {i j : Int} (hu : P.underlying tx = some (.slice e)) (hs : ∀ w, (sizeOf e).run P w = .ok 1 w) (hx : evo f x = some (.slice p m c))
  (hi : evo f y = some (.int .i64 i)) (hj : evo f z = some (.int .i64 j)) (a b : Nat) (ei : i = a) (ej : j = b) (hab : a ≤ b) (hbc : b ≤ c) :
  Pure P (.slice tx x (some y) (some z) none) f (.slice (pPart p c a) (b - a) (c - a)) := fun ρ hρ d ty pos aft g w => by
 subst ei; subst ej
 have h1 : (a : Int) ≤ (b : Int) := by omega
 simp [execOp, Instr.sliceAt, Instr.slice, Instr.sliceBounds, run_sliceBound, hρ _ _ hx, hρ _ _ hi, hρ _ _ hj, run_underlying hu, hs, hbc, hab, pPart]
theorem Pure.slbF {tx e : TypeId} {x y : Operand} {p : Option Addr} {m c : Nat} {i : Int} (hu : P.underlying tx = some (.slice e)) (hs : ∀ w, (sizeOf e).run P w = .ok 1 w) (hx : evo f x = some (.slice p m c))
  (hi : evo f y = some (.int .i64 i)) (a : Nat) (ei : i = a) (ham : a ≤ m) :
  Pure P (.slice tx x (some y) none none) f (.slice (pPart p c a) (m - a) (c - a)) := fun ρ hρ d ty pos aft g w => by
 subst ei
 simp [execOp, Instr.sliceAt, Instr.slice, Instr.sliceBounds, run_sliceBound, hρ _ _ hx, hρ _ _ hi, run_underlying hu, hs, ham, pPart]
theorem BytesAt.part {w : World} {p : Option Addr} {l : List UInt8} {c a b : Nat} (h : BytesAt w p l) (hab : a ≤ b) (hb : b ≤ l.length) (hc : l.length ≤ c) : BytesAt w (pPart p c a) ((l.drop a).take (b - a)) := by
  have hlen : ((l.drop a).take (b - a)).length = b - a := by rw [List.length_take, List.length_drop]; omega
  by_cases h0 : a = b
  · refine ⟨fun h => ?_, fun j hj => ?_⟩ <;> rw [hlen] at * <;> omega
  · have hp := h.isp oO
    have e1 : pPart p c a = some ((pA p).add a) := by unfold pPart; rw [if_neg oO]; rw [hp]; rfl
    rw [e1]
    refine ⟨fun _ => rfl, fun j hj => ?_⟩
    rw [hlen] at hj
    show w.cell? (((pA p).add a).add j) = _
    rw [add_add, h.cells (a + j) oO]
    simp
theorem Rd.iis {op : Op} {w : World} {k : IntKind} {s : Int} (t : Int) (h : Rd P op f w (.int k s)) (e : s = t) : Rd P op f w (.int k t) := e ▸ h
theorem byteVals_len (l : List UInt8) : (byteVals l).length = l.length := by simp [byteVals]
end
end
section
open Go.RowKit Go.WideShapes Go.ChangeShapes
section
variable {P : Program} {n : Sh} {f : Fr}
/-- an empty slice -/
theorem WL.bsl0 {ops : Array Oper} {Q : Exit → Fr → World → Prop} {w : World} {rest : List Oper} {d ty : Nat} {pos : String} {aft : Array Edge} {t e : TypeId} {sz : Nat}
  (hu : P.underlying t = some (.slice e)) (hs : ∀ w, (sizeOf e).run P w = .ok sz w) (hd : Nat.blt d n.n = true)
  (k : ∀ b w1, b = w.heap.size → (∀ B, B ≤ b → w1.ownsRow B e sz (.slice (some ⟨b, 0, none⟩) 0 0) 0 []) → Upd b w w1 → w1.heap.size = b + 1 → WL P n ops Q rest ((d, .slice (some ⟨b, 0, none⟩) 0 0) :: f) w1) :
  WL P n ops Q (⟨some d, .buildSlice t 0 [].toArray, ty, pos, aft, none⟩ :: rest) f w := by
 refine WL.run hd (w' := w.alloc (.cells #[] e)) (v := .slice (some ⟨w.heap.size, 0, none⟩) 0 0) (fun ρ hρ => ?_)
  (k _ _ rfl (fun B hB => ⟨by simp, .inr ⟨w.heap.size, 0, #[], rfl, hB, Blk.alloc _ _ _, Nat.le_refl _, by unfold maxLen; omega, by simp, by simp⟩⟩) (Upd.alloc _ _) (by simp))
 unfold execOp
 have h0 : Array.map (fun _ => (default : Value)) (Array.range 0) = #[] := by simp
 simp [Instr.buildSlice, run_underlying hu, hs, Instr.fill, h0, newRow]
/-- bytes put behind a row of the call's own -/
theorem WL.appB {ops : Array Oper} {Q : Exit → Fr → World → Prop} {w : World} {rest : List Oper} {d ty : Nat} {pos : String} {aft : Array Edge} {s x : Operand} {t e : TypeId} {B : Nat} {z v : Value} {xs : List Value} {p : Option Addr} {l : List UInt8} {c by' : Nat}
    (ht : P.underlying t = some (.slice e)) (hi : (P.info? e).map (fun i => (i.zero, i.size, i.bytes)) = some (some z, 1, by')) (hby2 : Nat.ble by' 16 = true) (hzs : z.cells.size = 1)
    (hs : evo f s = some v) (hown : Own e B w v xs) (hx : evo f x = some (.slice p l.length c)) (hb : BytesAt w p l)
    (hn : xs.length + l.length ≤ 1000000000) (hB : B ≤ w.heap.size) (hd : Nat.blt d n.n = true) (hc : l = [] → c = 0 ∨ p ≠ none)
    (k : ∀ v' w', Own e B w' v' (xs ++ byteVals l) → Below B w w' → w.grownBy w' v.ownBlock → WL P n ops Q rest ((d, v') :: f) w') :
    WL P n ops Q (⟨some d, .call ⟨.builtin .append, #[s, x], #[t, t]⟩, ty, pos, aft, none⟩ :: rest) f w := by
  cases hh : P.info? e with
  | none => rw [hh] at hi; cases hi
  | some i =>
    rw [hh] at hi
    simp only [Option.map_some, Option.some.injEq, Prod.mk.injEq] at hi
    obtain ⟨hz, hsize, hby⟩ := hi
    have hby2' : by' ≤ 16 := by simpa using hby2
    cases hp : p with
    | none =>
      have hl : l = [] := by
        cases l with
        | nil => rfl
        | cons a r => have := hb.isp (by simp); rw [hp] at this; cases this
      have hc0 : c = 0 := (hc hl).resolve_right (fun h => h hp)
      subst hp; subst hl; subst hc0
      have h2 := run_append_owned_none (P := P) (w := w) B t ty e i 1 ht hh v xs.length xs hown
      refine WL.run hd (w' := w) (v := v) (fun ρ hρ => ?_) (k v w (by simpa [byteVals] using hown) (Below.refl _ _) ⟨rfl, rfl, rfl, Nat.le_refl _, fun _ _ _ => rfl⟩)
      unfold execOp
      simp only [resolve, invoke, builtin, Sem.run_bind, Sem.run_pure, Result.andThen_ok, List.map_toArray, List.map_cons, List.map_nil, hρ _ _ hs, hρ _ _ hx, List.length_nil, h2]
    | some a =>
      subst hp
      obtain ⟨v', w', h2, h3, h4, -⟩ := run_append_own (P := P) (w := w) B t ty e i z 1 by' ht hh hz hsize hby hzs dD v xs.length xs hown a l.length c (byteVals l) (by simp [byteVals])
        (fun j y hj => by
          have hj' : j < l.length := by
            rcases Nat.lt_or_ge j l.length with h | h
            · exact h
            · rw [List.getElem?_eq_none (by rw [byteVals_len]; omega)] at hj; cases hj
          have := hb.cells j hj'
          rw [show pA (some a) = a from rfl] at this
          rw [this]
          rw [← hj]; simp [byteVals, hj'])
        (fun u hu => by simp only [byteVals, List.mem_map] at hu; obtain ⟨y, -, rfl⟩ := hu; rfl) (by unfold maxLen; omega) (by
          have : (xs.length + l.length) * by' ≤ (xs.length + l.length) * 16 := Nat.mul_le_mul_left _ hby2'
          omega) hB
      refine WL.run hd (w' := w') (v := v') (fun ρ hρ => ?_) (k v' w' ?_ ((Below.refl _ _).grown h4 hB fun k hk => (hown.lt k hk).1) h4)
      · unfold execOp
        simp only [resolve, invoke, builtin, Sem.run_bind, Sem.run_pure, Result.andThen_ok, List.map_toArray, List.map_cons, List.map_nil, hρ _ _ hs, hρ _ _ hx, h2]
      · have e1 : (xs ++ byteVals l).length = xs.length + l.length := by simp [byteVals]
        unfold Own
        rw [e1]; exact h3
/-- an own row of bytes reads as bytes; its room -/
theorem Own.bytesC {e : TypeId} {B : Nat} {w : World} {v : Value} {l : List UInt8} (h : Own e B w v (byteVals l)) : ∃ p c, v = .slice p l.length c ∧ BytesAt w p l ∧ (0 < l.length → B ≤ (pA p).block) ∧ l.length ≤ c ∧ (l = [] → c = 0 ∨ p ≠ none) := by
 obtain ⟨p, c, hv, hb, hB⟩ := h.bytes
 have hbl : (byteVals l).length = l.length := by simp [byteVals]
 obtain ⟨hl, h⟩ := h
 rcases h with ⟨rfl, h0⟩ | ⟨g, cap, cur, rfl, -, -, hnc, -⟩
 ·
  simp only [Value.slice.injEq] at hv
  obtain ⟨rfl, h1, rfl⟩ := hv
  exact ⟨none, 0, by rw [← h1], hb, hB, by omega, fun _ => .inl rfl⟩
 ·
  simp only [Value.slice.injEq] at hv
  obtain ⟨rfl, h1, rfl⟩ := hv
  exact ⟨_, _, by rw [h1], hb, hB, by omega, fun _ => .inr (by simp)⟩
end
theorem Drew.le {w w1 : World} {B : Nat} (h : B ≤ w.heap.size) (d : Drew w w1) : B ≤ w1.heap.size := by rw [d.size]; exact h
/-- a block of bytes, written out -/
theorem BytesAt.lit {w : World} {b : Nat} {cs : Array Value} {t : TypeId} {l : List UInt8} (h : Blk w b cs t) (e : cs = (byteVals l).toArray) : BytesAt w (some ⟨b, 0, none⟩) l := by
 subst e
 refine ⟨fun _ => rfl, fun j hj => ?_⟩
 have e1 : (pA (some ⟨b, 0, none⟩)).add j = ⟨b, j, none⟩ := by
  show (⟨b, 0, none⟩ : Addr).add j = _
  unfold Addr.add; split
  ·
   next h => subst h; rfl
  ·
   simp
 rw [e1, h.cell j]
 simp [byteVals, hj]
/-- bytes written out, as a conversion of a constant lays them -/
theorem WL.cvB {P : Program} {n : Sh} {f : Fr} {ops : Array Oper} {Q : Exit → Fr → World → Prop} {w : World} {rest : List Oper} {d ty : Nat} {pos : String} {aft : Array Edge} {x : Operand} {t e tb : TypeId} {b len cap : Nat} {cs : Array Value} (l : List UInt8)
  (ht : P.underlying t = some (.slice e)) (he : P.underlying e = some (.int .u8)) (hx : evo f x = some (.slice (some ⟨b, 0, none⟩) len cap)) (hb : Blk w b cs tb) (hl : cs = (byteVals l).toArray) (hd : Nat.blt d n.n = true)
  (k : ∀ w1, BytesAt w1 (some ⟨b, 0, none⟩) l → Upd b w w1 → w1.heap.size = w.heap.size → WL P n ops Q rest ((d, .slice (some ⟨b, 0, none⟩) len cap) :: f) w1) :
  WL P n ops Q (⟨some d, .convert t t x, ty, pos, aft, none⟩ :: rest) f w := by
 have hsh : w.shape? b = some (tb, cs.size) := by unfold World.shape?; rw [show w.heap[b]? = _ from hb]
 have hlt := hb.lt
 have hheap : (w.freeze ⟨b, cs.size, none⟩ 1).heap = w.heap.modify b fun
   | .cells c elem (lo, hi) => .cells c elem (if lo == hi then (cs.size, cs.size + 1) else (min lo cs.size, max hi (cs.size + 1)))
   | o => o := rfl
 have hat : (w.freeze ⟨b, cs.size, none⟩ 1).heap[b]? = some (.cells cs tb (cs.size, cs.size + 1)) := by
  rw [hheap, Array.getElem?_modify, if_pos rfl, show w.heap[b]? = _ from hb]; rfl
 have hu : Upd b w (w.freeze ⟨b, cs.size, none⟩ 1) := ⟨rfl, rfl, rfl, by rw [hheap]; simp, fun k hk => by rw [hheap, Array.getElem?_modify, if_neg (Ne.symm hk)]⟩
 refine WL.run hd (w' := w.freeze ⟨b, cs.size, none⟩ 1) (v := .slice (some ⟨b, 0, none⟩) len cap) (fun ρ hρ => ?_) (k _ ?_ hu (by rw [hheap]; simp))
 ·
  unfold execOp
  simp [hρ _ _ hx, convert, run_underlying ht, run_underlying he, markStringish, hsh]
 ·
  subst hl
  refine ⟨fun _ => rfl, fun j hj => ?_⟩
  have e1 : (pA (some ⟨b, 0, none⟩)).add j = ⟨b, j, none⟩ := by
   show (⟨b, 0, none⟩ : Addr).add j = _
   unfold Addr.add; split
   ·
    next h => subst h; rfl
   ·
    simp
  rw [e1, Lib.cell_of_heap hat j]
  simp [byteVals, hj]
/-- bytes that came in -/
theorem open_bytes {H : Type} {enc : TypeId × Value → H} {P : Program} {w : World} {base : Nat} {held : Bool} {r : Reach} {b0 : Nat} {t e : TypeId} {v : Value} {d : DataW H} {ps : List MemPlace} (ht : P.underlying t = some (.slice e)) (he : P.underlying e = some (.int .u8)) (hc : P.cellsOf e = 1)
  (hval : Value.okWide P w r b0 t v) (hd : DataW.Trod enc P w base (fun _ => true) held t v d ps) :
  ∃ p l c, v = .slice p (l : List UInt8).length c ∧ BytesAt w p l ∧ l.length ≤ c ∧ (l = [] → c = 0 ∨ p ≠ none) ∧ c ≤ maxLen := by
 obtain ⟨a0, len, cap, rfl⟩ := okWide_slice ht hval
 obtain ⟨fuel, hf⟩ := hd
 rcases open_ints ht he hc hf with ⟨hcs, -⟩ | ⟨a, len', cap', zs, hcs, _, hl, hm, hz, hx, hcell, hwz⟩
 ·
  simp [Value.cells] at hcs
  obtain ⟨rfl, rfl, rfl⟩ := hcs
  exact ⟨none, [], 0, rfl, BytesAt.nil w, Nat.le_refl _, fun _ => .inl rfl, by unfold maxLen; omega⟩
 ·
  simp [Value.cells] at hcs
  obtain ⟨rfl, rfl, rfl⟩ := hcs
  simp only [if_true] at hz
  have hlen : ((zs.take len).map fun z => z.toNat.toUInt8).length = len := by simp; omega
  refine ⟨some a, (zs.take len).map fun z => z.toNat.toUInt8, cap, by rw [hlen], ⟨fun _ => rfl, fun j hj => ?_⟩, by omega, fun _ => .inr (by simp), hm⟩
  rw [hlen] at hj
  have hjz : j < zs.length := by omega
  rw [show pA (some a) = a from rfl, hcell j hjz]
  have hw := hwz (zs[j]) (List.getElem_mem _)
  have hwf : 0 ≤ zs[j] ∧ zs[j] ≤ 255 := by
   simp only [Lit.wf, Bool.and_eq_true, decide_eq_true_eq] at hw
   exact hw
  simp only [List.getElem_map, List.getElem_take, List.getD, List.getElem?_eq_getElem hjz, Option.getD_some, Option.some.injEq, Value.int.injEq, true_and]
  have e : (zs[j].toNat.toUInt8).toNat = zs[j].toNat % 256 := by simp
  rw [e]; omega
/-- a reading of an argument stands behind a call that only lays new blocks -/
theorem trod_keep {H : Type} {enc : TypeId × Value → H} {P : Program} {t : TypeId} (hl : laidOutB P = true) (hr : P.readableRec t = true) (hrow : decide (t < P.types.size) = true) {W W' : World} {v : Value} {d : DataW H} {ps : List MemPlace}
  (h : DataW.Trod enc P W 0 (fun _ => true) true t v d ps) (hb : Below W.heap.size W W') (hlt : ∀ x ∈ ps, x.block < W.heap.size) :
  DataW.Trod enc P W' 0 (fun b => decide (b < W.heap.size)) true t v d ps := Below.trod hl hr (dT hrow) h hb hlt
end
section
open Go.RowKit Go.WideShapes Go.ChangeShapes
section
variable {P : Program} {n : Sh} {f : Fr}
/-- a string's bytes in a block of their own -/
theorem WL.s2b {ops : Array Oper} {Q : Exit → Fr → World → Prop} {w : World} {rest : List Oper} {d ty : Nat} {pos : String} {aft : Array Edge} {x : Operand} {src dst e : TypeId} {l : List UInt8}
  (hs : P.underlying src = some .string) (hd' : P.underlying dst = some (.slice e)) (he : P.underlying e = some (.int .u8)) (hx : evo f x = some (.string (bs l))) (hd : Nat.blt d n.n = true)
  (k : ∀ b w1 c, b = w.heap.size → BytesAt w1 (some ⟨b, 0, none⟩) l → l.length ≤ c → Upd b w w1 → w1.heap.size = b + 1 → WL P n ops Q rest ((d, .slice (some ⟨b, 0, none⟩) l.length c) :: f) w1) :
  WL P n ops Q (⟨some d, .convert src dst x, ty, pos, aft, none⟩ :: rest) f w := by
 have hrun := Lib.run_convert_string_bytes (P := P) w src dst e (bs l) hs hd' he
 have hsz : (bs l).size = l.length := by simp [bs, ByteArray.size]
 have hu : Upd w.heap.size w (Lib.bytesWorld w e (bs l)) := ⟨rfl, rfl, rfl, by rw [Lib.bytesWorld_size]; omega, fun j hj => by
  rcases Nat.lt_or_ge j w.heap.size with h | h
  ·
   exact Lib.bytesWorld_at_old w e (bs l) j h
  ·
   rw [Array.getElem?_eq_none (by rw [Lib.bytesWorld_size]; omega), Array.getElem?_eq_none h]⟩
 refine WL.run hd (w' := Lib.bytesWorld w e (bs l)) (v := .slice (some ⟨w.heap.size, 0, none⟩) l.length (grownCap w l.length 0 e)) (fun ρ hρ => ?_)
  (k _ _ _ rfl ⟨fun _ => rfl, fun j hj => ?_⟩ (grownCap_ge w l.length 0 e) hu (Lib.bytesWorld_size w e (bs l)))
 ·
  unfold execOp
  simp only [hρ _ _ hx, Sem.run_bind, hrun, Result.andThen_ok, Sem.run_pure, hsz]
 ·
  have e1 : (pA (some ⟨w.heap.size, 0, none⟩)).add j = ⟨w.heap.size, j, none⟩ := by
   show (⟨w.heap.size, 0, none⟩ : Addr).add j = _
   unfold Addr.add; split
   ·
    next h => rw [h]
   ·
    simp
  rw [e1, Lib.bytesWorld_cell w e (bs l) j (by rw [hsz]; exact hj)]
  simp [bs, List.getD, hj]
/-- a literal as a row of the call's own -/
theorem Own.lit {w : World} {b m : Nat} {cs : Array Value} {e : TypeId} (h : Blk w b cs e) (hm : cs.size = m) (hl : m ≤ maxLen) : Own e b w (.slice (some ⟨b, 0, none⟩) m m) cs.toList := by
 subst hm
 refine ⟨by simp, .inr ⟨b, cs.size, cs, ?_, Nat.le_refl _, h, by simp, hl, by simp, by rw [List.take_of_length_le (by simp)]⟩⟩
 simp
end
/-- elements of one cell each in memory -/
structure RowAt {α : Type} (V : α → Value) (w : World) (p : Option Addr) (l : List α) : Prop where
 isp : 0 < l.length → p = some (pA p)
 cells : ∀ j (h : j < l.length), w.cell? ((pA p).add j) = some (V l[j])
section
variable {α : Type} {V : α → Value}
theorem RowAt.lt {w : World} {p : Option Addr} {l : List α} (h : RowAt V w p l) (h0 : 0 < l.length) : (pA p).block < w.heap.size := by
 have := h.cells 0 h0
 rcases Nat.lt_or_ge (pA p).block w.heap.size with h' | h'
 ·
  exact h'
 ·
  exfalso
  have hb : ((pA p).add 0).block = (pA p).block := add_block _ _
  unfold World.cell? at this
  rw [hb, Array.getElem?_eq_none h'] at this
  cases this
theorem RowAt.below {w w1 : World} {B : Nat} {p : Option Addr} {l : List α} (h : RowAt V w p l) (hb : Below B w w1) (hp : 0 < l.length → (pA p).block < B) : RowAt V w1 p l :=
 ⟨h.isp, fun j hj => by rw [World.cell?_of_block (w := w) (hb.block _ (by rw [add_block]; exact hp oO))]; exact h.cells j hj⟩
theorem RowAt.upd {w w1 : World} {b : Nat} {p : Option Addr} {l : List α} (h : RowAt V w p l) (hu : Upd b w w1) (hp : 0 < l.length → (pA p).block ≠ b) : RowAt V w1 p l :=
 ⟨h.isp, fun j hj => by rw [World.cell?_of_block (w := w) (hu.other _ (by rw [add_block]; exact hp oO))]; exact h.cells j hj⟩
theorem RowAt.drewN {w : World} {p : Option Addr} {l : List α} (h : RowAt V w p l) (m : Nat) : RowAt V (w.drewN m) p l := ⟨h.isp, h.cells⟩
theorem RowAt.drew {w w1 : World} {p : Option Addr} {l : List α} (h : RowAt V w p l) (d : Drew w w1) : RowAt V w1 p l := by obtain ⟨m, rfl⟩ := d; exact h.drewN m
theorem RowAt.nil (w : World) : RowAt V w none [] := ⟨fun h => by simp at h, fun j h => by simp at h⟩
theorem RowAt.lit {w : World} {b : Nat} {cs : Array Value} {t : TypeId} {l : List α} (h : Blk w b cs t) (e : cs = (l.map V).toArray) : RowAt V w (some ⟨b, 0, none⟩) l := by
 subst e
 refine ⟨fun _ => rfl, fun j hj => ?_⟩
 have e1 : (pA (some ⟨b, 0, none⟩)).add j = ⟨b, j, none⟩ := by
  show (⟨b, 0, none⟩ : Addr).add j = _
  unfold Addr.add; split
  ·
   next h => subst h; rfl
  ·
   simp
 rw [e1, h.cell j]
 simp [hj]
/-- an own row read as elements -/
theorem Own.row {e : TypeId} {B : Nat} {w : World} {v : Value} {l : List α} (h : Own e B w v (l.map V)) : ∃ p c, v = .slice p l.length c ∧ RowAt V w p l ∧ (0 < l.length → B ≤ (pA p).block) ∧ l.length ≤ c ∧ (l = [] → c = 0 ∨ p ≠ none) := by
  have hbl : (l.map V).length = l.length := by simp
  obtain ⟨hl, h⟩ := h
  rcases h with ⟨rfl, h0⟩ | ⟨g, cap, cur, rfl, hB, hg, hnc, hcm, hcs, htake⟩
  · obtain rfl : l = [] := by rw [hbl] at h0; exact List.length_eq_zero_iff.1 h0
    exact ⟨none, 0, rfl, RowAt.nil w, fun h => by simp at h, Nat.le_refl _, fun _ => .inl rfl⟩
  · rw [hbl] at hnc htake ⊢
    refine ⟨_, cap, rfl, ⟨fun _ => rfl, fun j hj => ?_⟩, fun _ => hB, hnc, fun _ => .inr (by simp)⟩
    have e1 : (pA (some ⟨g, 0, none⟩)).add j = ⟨g, j, none⟩ := by
      show (⟨g, 0, none⟩ : Addr).add j = _
      unfold Addr.add; split
      · next h => subst h; rfl
      · simp
    have hc := Lib.cell_of_heap hg j
    rw [e1, hc, ← Array.getElem?_toList]
    have h2 : (cur.toList.take (l.length * 1))[j]? = (l.map V)[j]? := by rw [htake]
    rw [List.getElem?_take, if_pos oO] at h2
    rw [h2]
    simp [hj]
end
/-- a string's byte, the index of any kind -/
theorem Pure.ixk {P : Program} {f : Fr} {x y : Operand} {tx : TypeId} {l : List UInt8} {kd : IntKind} {i : Int} (hu : P.underlying tx = some .string) (hx : evo f x = some (.string (bs l))) (hi : evo f y = some (.int kd i)) (k : Nat) (e : i = k) (hk : k < l.length) : Pure P (.index tx x y) f (.int .u8 (l[k].toNat : Int)) := fun ρ hρ d ty pos aft g w => by
 subst e
 have h1 : (bs l)[k]? = some l[k] := by
  have : k < (bs l).size := by rw [bs_size]; exact hk
  rw [getElem?_pos (bs l) k this]; rfl
 simp [execOp, Instr.index, hρ _ _ hx, hρ _ _ hi, asIntOf, run_underlying hu, h1]
end
section
open Go.RowKit Go.WideShapes Go.ChangeShapes
theorem add_lit (b o j : Nat) : (⟨b, o, none⟩ : Addr).add j = ⟨b, o + j, none⟩ := by
 unfold Addr.add; split <;> simp_all
/-- how an element is laid: m cells, each of one value -/
structure Lay (α : Type) where
 m : Nat
 V : α → List Value
 pos : 0 < m
 len : ∀ x, (V x).length = m
 one : ∀ x, ∀ v ∈ V x, v.oneCell' = true
variable {α : Type}
def Lay.flat (L : Lay α) (l : List α) : List Value := l.flatMap L.V
theorem Lay.flat_len (L : Lay α) : ∀ l : List α, (L.flat l).length = l.length * L.m
 | [] => by simp [Lay.flat]
 | x :: l => by
  have := L.flat_len l
  unfold Lay.flat at this ⊢
  simp only [List.flatMap_cons, List.length_append, L.len, this, List.length_cons, Nat.succ_mul]; omega
theorem Lay.flat_append (L : Lay α) (l k : List α) : L.flat (l ++ k) = L.flat l ++ L.flat k := by simp [Lay.flat]
theorem Lay.flat_one (L : Lay α) (l : List α) : ∀ v ∈ L.flat l, v.oneCell' = true := by
 intro v hv
 simp only [Lay.flat, List.mem_flatMap] at hv
 obtain ⟨x, -, h⟩ := hv
 exact L.one x v h
theorem Lay.flat_at (L : Lay α) : ∀ (l : List α) (j : Nat) (h : j < l.length) (i : Nat), i < L.m → (L.flat l)[j * L.m + i]? = (L.V l[j])[i]?
 | x :: l, 0, h, i, hi => by
  simp only [Lay.flat, List.flatMap_cons, Nat.zero_mul, Nat.zero_add, List.getElem_cons_zero]
  rw [List.getElem?_append_left (by rw [L.len]; exact hi)]
 | x :: l, j + 1, h, i, hi => by
  have ih := L.flat_at l j (by simpa using h) i hi
  simp only [Lay.flat, List.flatMap_cons, List.getElem_cons_succ] at ih ⊢
  rw [List.getElem?_append_right (by rw [L.len, Nat.succ_mul]; omega), L.len, ← ih]
  congr 1
  rw [Nat.succ_mul]; omega
theorem Lay.flat_take (L : Lay α) (l : List α) (k : Nat) : (L.flat l).take (k * L.m) = L.flat (l.take k) := by
 induction l generalizing k with
 | nil => simp [Lay.flat]
 | cons x l ih =>
  cases k with
  | zero => simp [Lay.flat]
  | succ k =>
   have := ih k
   simp only [Lay.flat, List.flatMap_cons, List.take_succ_cons] at this ⊢
   rw [List.take_append, L.len, List.take_of_length_le (by rw [L.len, Nat.succ_mul]; omega), ← this]
   congr 2
   rw [Nat.succ_mul]; omega
theorem Lay.flat_drop (L : Lay α) (l : List α) (k : Nat) : (L.flat l).drop (k * L.m) = L.flat (l.drop k) := by
 induction l generalizing k with
 | nil => simp [Lay.flat]
 | cons x l ih =>
  cases k with
  | zero => simp [Lay.flat]
  | succ k =>
   have := ih k
   simp only [Lay.flat, List.flatMap_cons, List.drop_succ_cons] at this ⊢
   rw [List.drop_append, L.len, List.drop_of_length_le (by rw [L.len, Nat.succ_mul]; omega), List.nil_append, ← this]
   congr 1
   rw [Nat.succ_mul]; omega
/-- elements of several cells each in memory -/
structure RowM (L : Lay α) (w : World) (p : Option Addr) (l : List α) : Prop where
 isp : 0 < l.length → p = some (pA p)
 cells : ∀ j (h : j < l.length) i, i < L.m → w.cell? ((pA p).add (j * L.m + i)) = (L.V l[j])[i]?
section
variable {L : Lay α}
theorem RowM.flat {w : World} {p : Option Addr} {l : List α} (h : RowM L w p l) : ∀ k v, (L.flat l)[k]? = some v → w.cell? ((pA p).add k) = some v := by
 intro k v hk
 have hlt : k < (L.flat l).length := by
  rcases Nat.lt_or_ge k (L.flat l).length with h | h
  ·
   exact h
  ·
   rw [List.getElem?_eq_none h] at hk; cases hk
 rw [L.flat_len] at hlt
 have hj : k / L.m < l.length := (Nat.div_lt_iff_lt_mul L.pos).2 hlt
 have hi := Nat.mod_lt k L.pos
 have e : k / L.m * L.m + k % L.m = k := Nat.div_add_mod' k L.m
 have h1 := L.flat_at l (k / L.m) hj (k % L.m) hi
 have h2 := h.cells (k / L.m) hj (k % L.m) hi
 rw [e] at h1 h2
 rw [h2, ← h1, hk]
theorem RowM.of_flat {w : World} {p : Option Addr} {l : List α} (hp : 0 < l.length → p = some (pA p)) (h : ∀ k v, (L.flat l)[k]? = some v → w.cell? ((pA p).add k) = some v) : RowM L w p l :=
 ⟨hp, fun j hj i hi => by
  have h1 := L.flat_at l j hj i hi
  have h2 : i < (L.V l[j]).length := by rw [L.len]; exact hi
  rw [List.getElem?_eq_getElem h2] at h1 ⊢
  exact h _ _ h1⟩
theorem RowM.lt {w : World} {p : Option Addr} {l : List α} (h : RowM L w p l) (h0 : 0 < l.length) : (pA p).block < w.heap.size := by
 have hc := h.cells 0 h0 0 L.pos
 rw [List.getElem?_eq_getElem (by rw [L.len]; exact L.pos)] at hc
 rcases Nat.lt_or_ge (pA p).block w.heap.size with h' | h'
 ·
  exact h'
 ·
  exfalso
  have hb : ((pA p).add (0 * L.m + 0)).block = (pA p).block := add_block _ _
  unfold World.cell? at hc
  rw [hb, Array.getElem?_eq_none h'] at hc
  cases hc
theorem RowM.same {w w1 : World} {p : Option Addr} {l : List α} (h : RowM L w p l) (hb : 0 < l.length → w1.heap[(pA p).block]? = w.heap[(pA p).block]?) : RowM L w1 p l :=
 ⟨h.isp, fun j hj i hi => by rw [World.cell?_of_block (w := w) (by rw [add_block]; exact hb oO)]; exact h.cells j hj i hi⟩
theorem RowM.below {w w1 : World} {B : Nat} {p : Option Addr} {l : List α} (h : RowM L w p l) (hb : Below B w w1) (hp : 0 < l.length → (pA p).block < B) : RowM L w1 p l := h.same fun h0 => hb.block _ (hp h0)
theorem RowM.upd {w w1 : World} {b : Nat} {p : Option Addr} {l : List α} (h : RowM L w p l) (hu : Upd b w w1) (hp : 0 < l.length → (pA p).block ≠ b) : RowM L w1 p l := h.same fun h0 => hu.other _ (hp h0)
theorem RowM.drewN {w : World} {p : Option Addr} {l : List α} (h : RowM L w p l) (m : Nat) : RowM L (w.drewN m) p l := ⟨h.isp, h.cells⟩
theorem RowM.drew {w w1 : World} {p : Option Addr} {l : List α} (h : RowM L w p l) (d : Drew w w1) : RowM L w1 p l := by obtain ⟨m, rfl⟩ := d; exact h.drewN m
theorem RowM.nil (w : World) : RowM L w none [] := ⟨fun h => by simp at h, fun j h => by simp at h⟩
/-- a part of it -/
def pPartM (m : Nat) (p : Option Addr) (c a : Nat) : Option Addr := if c = a then p else p.map (·.add (a * m))
theorem RowM.part {w : World} {p : Option Addr} {l : List α} {c a b : Nat} (h : RowM L w p l) (hab : a ≤ b) (hb : b ≤ l.length) (hc : l.length ≤ c) : RowM L w (pPartM L.m p c a) ((l.drop a).take (b - a)) := by
  have hlen : ((l.drop a).take (b - a)).length = b - a := by rw [List.length_take, List.length_drop]; omega
  by_cases h0 : a = b
  · refine ⟨fun h => ?_, fun j hj => ?_⟩ <;> rw [hlen] at * <;> omega
  · have hp := h.isp oO
    have e1 : pPartM L.m p c a = some ((pA p).add (a * L.m)) := by unfold pPartM; rw [if_neg oO]; rw [hp]; rfl
    rw [e1]
    refine ⟨fun _ => rfl, fun j hj i hi => ?_⟩
    rw [hlen] at hj
    show w.cell? (((pA p).add (a * L.m)).add (j * L.m + i)) = _
    rw [add_add, show a * L.m + (j * L.m + i) = (a + j) * L.m + i by rw [Nat.add_mul]; omega, h.cells (a + j) oO i hi]
    simp
/-- such a row of the call's own: from block B on; the row may go on behind the slice's room -/
def OwnM (L : Lay α) (e : TypeId) (B : Nat) (w : World) (v : Value) (l : List α) : Prop :=
 (v = .slice none 0 0 ∧ l = []) ∨ ∃ g cap cur, v = .slice (some ⟨g, 0, none⟩) l.length cap ∧ B ≤ g ∧ w.heap[g]? = some (.cells cur e (0, 0)) ∧ l.length ≤ cap ∧ cap ≤ maxLen ∧ cap * L.m ≤ cur.size ∧ cur.toList.take (l.length * L.m) = L.flat l
theorem OwnM.nil (L : Lay α) (e : TypeId) (B : Nat) (w : World) : OwnM L e B w (.slice none 0 0) [] := .inl ⟨rfl, rfl⟩
theorem OwnM.of {e : TypeId} {B : Nat} {w : World} {v : Value} {l : List α} (h : w.ownsRow B e L.m v l.length (L.flat l)) : OwnM L e B w v l := by
 obtain ⟨hl, h⟩ := h
 rcases h with ⟨rfl, h0⟩ | ⟨g, cap, cur, h1, h2, h3, h4, h5, h6, h7⟩
 ·
  exact .inl ⟨rfl, List.length_eq_zero_iff.1 h0⟩
 ·
  exact .inr ⟨g, cap, cur, h1, h2, h3, h4, h5, by omega, h7⟩
theorem OwnM.row {e : TypeId} {B : Nat} {w : World} {v : Value} {l : List α} (h : OwnM L e B w v l) : ∃ p c, v = .slice p l.length c ∧ RowM L w p l ∧ (∀ a, p = some a → B ≤ a.block) ∧ l.length ≤ c ∧ (l = [] → c = 0 ∨ p ≠ none) ∧ v.ownBlock = p.map (·.block) ∧ c ≤ maxLen ∧ (p = none ∨ ∃ g, p = some ⟨g, 0, none⟩) := by
  rcases h with ⟨rfl, rfl⟩ | ⟨g, cap, cur, rfl, hB, hg, hnc, hcm, hcs, htake⟩
  · exact ⟨none, 0, rfl, RowM.nil w, fun a h => (by cases h), Nat.le_refl _, fun _ => .inl rfl, rfl, (by unfold maxLen; omega), .inl rfl⟩
  · refine ⟨_, cap, rfl, RowM.of_flat (fun _ => rfl) fun k v hk => ?_, fun a h => (by cases h; exact hB), hnc, fun _ => .inr (by simp), rfl, hcm, .inr ⟨g, rfl⟩⟩
    show w.cell? ((⟨g, 0, none⟩ : Addr).add k) = _
    rw [add_lit, Nat.zero_add, Lib.cell_of_heap hg k, ← Array.getElem?_toList]
    have h2 : (cur.toList.take (l.length * L.m))[k]? = (L.flat l)[k]? := by rw [htake]
    have hk2 : k < (L.flat l).length := by
      rcases Nat.lt_or_ge k (L.flat l).length with h | h
      · exact h
      · rw [List.getElem?_eq_none h] at hk; cases hk
    rw [L.flat_len] at hk2
    rw [List.getElem?_take, if_pos hk2] at h2
    rw [h2, hk]
theorem OwnM.same {e : TypeId} {B : Nat} {w w1 : World} {v : Value} {l : List α} (h : OwnM L e B w v l) (hb : ∀ g, v.ownBlock = some g → w1.heap[g]? = w.heap[g]?) : OwnM L e B w1 v l := by
 refine h.imp id fun ⟨g, cap, cur, h1, h2, h3, h4⟩ => ⟨g, cap, cur, h1, h2, ?_, h4⟩
 rw [hb g (by rw [h1]; rfl)]; exact h3
theorem OwnM.lt {e : TypeId} {B : Nat} {w : World} {v : Value} {l : List α} (h : OwnM L e B w v l) : ∀ g, v.ownBlock = some g → B ≤ g ∧ g < w.heap.size := by
 intro g hg
 rcases h with ⟨rfl, rfl⟩ | ⟨g', cap, cur, rfl, hB, h3, h4⟩
 ·
  cases hg
 ·
  cases hg
  exact ⟨hB, (Array.getElem?_eq_some_iff.1 h3).1⟩
theorem OwnM.base {e : TypeId} {B C : Nat} {w : World} {v : Value} {l : List α} (h : OwnM L e B w v l) (hC : ∀ g, v.ownBlock = some g → C ≤ g) : OwnM L e C w v l :=
 h.imp id fun ⟨g, cap, cur, h1, h2, h3⟩ => ⟨g, cap, cur, h1, hC g (by rw [h1]; rfl), h3⟩
theorem OwnM.drew {e : TypeId} {B : Nat} {w w1 : World} {v : Value} {l : List α} (h : OwnM L e B w v l) (d : Drew w w1) : OwnM L e B w1 v l := by obtain ⟨m, rfl⟩ := d; exact h
theorem OwnM.below {e : TypeId} {B : Nat} {w w1 : World} {v : Value} {l : List α} (h : OwnM L e B w v l) (hb : Below w.heap.size w w1) : OwnM L e B w1 v l := h.same fun g hg => hb.block g (h.lt g hg).2
theorem OwnM.new {e : TypeId} {B b : Nat} {w w1 : World} {v : Value} {l : List α} (h : OwnM L e B w v l) (eb : b = w.heap.size) (hu : Upd b w w1) : OwnM L e B w1 v l := h.same fun g hg => hu.other g (by have := (h.lt g hg).2; omega)
theorem OwnM.upd {e : TypeId} {B r : Nat} {w w1 : World} {v : Value} {l : List α} (h : OwnM L e B w v l) (hu : Upd r w w1) (hr : ∀ g, v.ownBlock = some g → g ≠ r) : OwnM L e B w1 v l := h.same fun g hg => hu.other g (hr g hg)
theorem OwnM.touch {e : TypeId} {B r : Nat} {w w1 : World} {v : Value} {l : List α} (h : OwnM L e B w v l) (hu : Upd r w w1) (hr : r < B) : OwnM L e B w1 v l := h.same fun g hg => hu.other g (by have := (h.lt g hg).1; omega)
theorem OwnM.one {e : TypeId} {B : Nat} {w : World} {v : Value} {l : List α} (h : OwnM L e B w v l) : v.oneCell' = true := by
 rcases h with ⟨rfl, -⟩ | ⟨g, cap, cur, rfl, -⟩ <;> rfl
/-- the first k alone -/
theorem OwnM.cut {e : TypeId} {B : Nat} {w : World} {p : Option Addr} {n c : Nat} {l : List α} (h : OwnM L e B w (.slice p n c) l) (k : Nat) (hk : k ≤ l.length) : OwnM L e B w (.slice p k k) (l.take k) := by
 rcases h with ⟨h1, rfl⟩ | ⟨g, cap, cur, h1, hB, hg, hnc, hcm, hcs, htake⟩
 ·
  cases h1
  obtain rfl : k = 0 := by simpa using hk
  exact .inl ⟨rfl, by simp⟩
 ·
  cases h1
  have hlen : (l.take k).length = k := by rw [List.length_take]; omega
  refine .inr ⟨g, k, cur, by rw [hlen], hB, hg, by rw [hlen]; exact Nat.le_refl _, by omega, Nat.le_trans (Nat.mul_le_mul_right _ oO) hcs, ?_⟩
  rw [hlen, ← L.flat_take, ← htake, List.take_take, Nat.min_eq_left (Nat.mul_le_mul_right _ hk)]
end
/-- a stretch of what may have turned: only these blocks of the old ones -/
structure Keep (S : List Nat) (w w1 : World) : Prop where
 os : w1.os = w.os
 tape : w1.tape = w.tape
 output : w1.output = w.output
 size : w.heap.size ≤ w1.heap.size
 block : ∀ k, k < w.heap.size → k ∉ S → w1.heap[k]? = w.heap[k]?
theorem Keep.refl (S : List Nat) (w : World) : Keep S w w := ⟨rfl, rfl, rfl, Nat.le_refl _, fun _ _ _ => rfl⟩
theorem Keep.below {S : List Nat} {w w1 : World} (h : Keep S w w1) {B : Nat} (hB : B ≤ w.heap.size) (hS : ∀ k ∈ S, B ≤ k) : Below B w w1 :=
 ⟨h.os, h.tape, h.output, h.size, fun k hk => h.block k oO fun hm => by have := hS k hm; omega⟩
/-- .. from an older world on -/
structure KeepB (B : Nat) (S : List Nat) (w w1 : World) : Prop where
 os : w1.os = w.os
 tape : w1.tape = w.tape
 output : w1.output = w.output
 size : w.heap.size ≤ w1.heap.size
 block : ∀ k, k < B → k ∉ S → w1.heap[k]? = w.heap[k]?
theorem KeepB.trans {B : Nat} {S : List Nat} {a b c : World} (h : KeepB B S a b) (k : KeepB B S b c) : KeepB B S a c :=
 ⟨k.os.trans h.os, k.tape.trans h.tape, k.output.trans h.output, Nat.le_trans h.size k.size, fun i hi hr => (k.block i hi hr).trans (h.block i hi hr)⟩
theorem KeepB.mono {B B' : Nat} {S : List Nat} {a b : World} (h : KeepB B' S a b) (hB : B ≤ B') : KeepB B S a b := ⟨h.os, h.tape, h.output, h.size, fun i hi hS => h.block i oO hS⟩
theorem Blk.keepB {B c : Nat} {S : List Nat} {w w1 : World} {cs : Array Value} {t : TypeId} (h : Blk w c cs t) (hT : KeepB B S w w1) (hc : c < B) (hS : c ∉ S) : Blk w1 c cs t := (hT.block c hc hS).trans h
theorem RowM.keepB {L : Lay α} {B : Nat} {S : List Nat} {w w1 : World} {p : Option Addr} {l : List α} (h : RowM L w p l) (hT : KeepB B S w w1) (hp : 0 < l.length → (pA p).block < B ∧ (pA p).block ∉ S) : RowM L w1 p l := h.same fun h0 => hT.block _ (hp h0).1 (hp h0).2
theorem OwnM.keepB {L : Lay α} {e : TypeId} {B C : Nat} {S : List Nat} {w w1 : World} {v : Value} {l : List α} (h : OwnM L e C w v l) (hT : KeepB B S w w1) (hp : ∀ g, v.ownBlock = some g → g < B ∧ g ∉ S) : OwnM L e C w1 v l := h.same fun g hg => hT.block g (hp g hg).1 (hp g hg).2
theorem KeepB.of_below {B B' : Nat} {S : List Nat} {a b : World} (h : Below B' a b) (hB : B ≤ B') : KeepB B S a b := ⟨h.os, h.tape, h.output, h.size, fun i hi _ => h.block i oO⟩
theorem KeepB.of_drew {B : Nat} {S : List Nat} {a b : World} (h : Drew a b) : KeepB B S a b := KeepB.of_below (h.below (Below.refl B _)) (Nat.le_refl _)
theorem KeepB.of_new {B c : Nat} {S : List Nat} {a b : World} (h : Upd c a b) (hc : B ≤ c) : KeepB B S a b := ⟨h.os, h.tape, h.output, h.size, fun i hi _ => h.other i oO⟩
theorem KeepB.of_mem {B c : Nat} {S : List Nat} {a b : World} (h : Upd c a b) (hc : c ∈ S) : KeepB B S a b := ⟨h.os, h.tape, h.output, h.size, fun i _ hS => h.other i (fun e => hS (e ▸ hc))⟩
theorem KeepB.of_grown {B : Nat} {S : List Nat} {a b : World} {row : Option Nat} (h : a.grownBy b row) (hr : ∀ g, row = some g → g ∈ S ∨ B ≤ g) (hB : B ≤ a.heap.size) : KeepB B S a b :=
 ⟨h.os, h.tape, h.output, h.size, fun i hi hS => h.block i oO fun e => by rcases hr i e.symm with h | h <;> first | exact hS h | omega⟩
theorem KeepB.below {B C : Nat} {S : List Nat} {w w1 : World} (h : KeepB B S w w1) (hB : C ≤ B) (hS : ∀ k ∈ S, C ≤ k) : Below C w w1 :=
 ⟨h.os, h.tape, h.output, h.size, fun k hk => h.block k oO fun hm => by have := hS k hm; omega⟩
theorem KeepB.refl (B : Nat) (S : List Nat) (w : World) : KeepB B S w w := ⟨rfl, rfl, rfl, Nat.le_refl _, fun _ _ _ => rfl⟩
section
variable {P : Program} {n : Sh} {f : Fr} {L : Lay α}
/-- elements put behind a row of the call's own -/
theorem WL.appMb {ops : Array Oper} {Q : Exit → Fr → World → Prop} {w : World} {rest : List Oper} {d ty : Nat} {pos : String} {aft : Array Edge} {s x : Operand} {t e : TypeId} {B : Nat} {z v : Value} {xs l : List α} {p : Option Addr} {c by' : Nat}
  (ht : P.underlying t = some (.slice e)) (hi : (P.info? e).map (fun i => (i.zero, i.size, i.bytes)) = some (some z, L.m, by')) (hby2 : Nat.ble by' 1000 = true) (hzs : z.cells.size = L.m)
  (hs : evo f s = some v) (hown : OwnM L e B w v xs) (hx : evo f x = some (.slice p l.length c)) (hb : RowM L w p l)
  (hn : xs.length + l.length ≤ 4611686018427387904) (hbt : (xs.length + l.length) * by' ≤ 140737488355328) (hB : B ≤ w.heap.size) (hd : Nat.blt d n.n = true) (hc : l = [] → c = 0 ∨ p ≠ none)
  (k : ∀ v' w', OwnM L e B w' v' (xs ++ l) → Below B w w' → w.grownBy w' v.ownBlock → (∀ g, v'.ownBlock = some g → v.ownBlock = some g ∨ w.heap.size ≤ g) → WL P n ops Q rest ((d, v') :: f) w') :
  WL P n ops Q (⟨some d, .call ⟨.builtin .append, #[s, x], #[t, t]⟩, ty, pos, aft, none⟩ :: rest) f w := by
 cases hh : P.info? e with
 | none => rw [hh] at hi; cases hi
 | some i =>
  rw [hh] at hi
  simp only [Option.map_some, Option.some.injEq, Prod.mk.injEq] at hi
  obtain ⟨hz, hsize, hby⟩ := hi
  have hby2' : by' ≤ 1000 := by simpa using hby2
  have hlx := L.flat_len xs
  have hll := L.flat_len l
  have e1 : (xs ++ l).length = xs.length + l.length := by simp
  have fin : ∀ (w' : World) (g cap : Nat) (cur : Array Value), B ≤ g → w'.heap[g]? = some (.cells cur e (0, 0)) → xs.length + l.length ≤ cap → cap ≤ maxLen → cap * L.m ≤ cur.size → cur.toList.take ((xs.length + l.length) * L.m) = L.flat xs ++ L.flat l →
    OwnM L e B w' (.slice (some ⟨g, 0, none⟩) (xs.length + l.length) cap) (xs ++ l) := fun w' g cap cur h1 h2 h3 h4 h5 h6 =>
   .inr ⟨g, cap, cur, by rw [e1], h1, h2, by rw [e1]; exact h3, h4, h5, by rw [e1, h6, L.flat_append]⟩
  have run : ∀ (v' : Value) (w' : World), (Builtin.append_ #[t, t] ty #[v, .slice p l.length c]).run P w = .ok v' w' → OwnM L e B w' v' (xs ++ l) → w.grownBy w' v.ownBlock → (∀ g, v'.ownBlock = some g → v.ownBlock = some g ∨ w.heap.size ≤ g) →
    WL P n ops Q (⟨some d, .call ⟨.builtin .append, #[s, x], #[t, t]⟩, ty, pos, aft, none⟩ :: rest) f w := fun v' w' h2 h3 h4 h5 => by
   refine WL.run hd (w' := w') (v := v') (fun ρ hρ => ?_) (k v' w' h3 ((Below.refl _ _).grown h4 hB fun k hk => (hown.lt k hk).1) h4 h5)
   unfold execOp
   simp only [resolve, invoke, builtin, Sem.run_bind, Sem.run_pure, Result.andThen_ok, List.map_toArray, List.map_cons, List.map_nil, hρ _ _ hs, hρ _ _ hx, h2]
  cases hp : p with
  | none =>
   have hl : l = [] := by
    cases l with
    | nil => rfl
    | cons a r => have := hb.isp (by simp); rw [hp] at this; cases this
   have hc0 : c = 0 := (hc hl).resolve_right (fun h => h hp)
   subst hp; subst hl; subst hc0
   refine run v w ?_ (by rw [List.append_nil]; exact hown) ⟨rfl, rfl, rfl, Nat.le_refl _, fun _ _ _ => rfl⟩ fun g hg => .inl hg
   rcases hown with ⟨rfl, rfl⟩ | ⟨g, cap, cur, rfl, -, -, hnc, -⟩
   ·
    simp [Builtin.append_, run_underlying ht, sizeOf, typeInfo, hh, Builtin.lenOf, Builtin.firstCells]
   ·
    simp [Builtin.append_, run_underlying ht, sizeOf, typeInfo, hh, Builtin.lenOf, Builtin.firstCells, hnc, storeCells]
  | some a =>
   subst hp
   have hbytes : (xs.length + l.length) * i.bytes ≤ 140737488355328 := by rw [hby]; exact hbt
   rcases hown with ⟨rfl, rfl⟩ | ⟨g, cap, cur, rfl, hBg, hg, hnc, hcm, hcs, htk⟩
   ·
    obtain ⟨v', w', h2, h3, h4, -⟩ := run_append_own (P := P) (w := w) w.heap.size t ty e i z L.m by' ht hh hz hsize hby hzs L.pos (.slice none 0 0) 0 [] (World.ownsRow_nil w w.heap.size e L.m) a l.length c (L.flat l) hll
     (fun j y hj => hb.flat j y hj) (L.flat_one l) (by unfold maxLen; omega) (by simp only [List.length_nil] at hbytes; rw [hby] at hbytes; exact hbytes) (Nat.le_refl _)
    have h3' : OwnM L e w.heap.size w' v' ([] ++ l) := OwnM.of (by rw [List.nil_append]; simpa using h3)
    exact run v' w' h2 (h3'.base fun g hg => Nat.le_trans hB (h3'.lt g hg).1) h4 fun g hg => .inr (h3'.lt g hg).1
   ·
    by_cases hroom : xs.length + l.length ≤ cap
    ·
     have hfit : xs.length * i.size + (L.flat l).length ≤ cur.size := by
      rw [hsize, hll, ← Nat.add_mul]; exact Nat.le_trans (Nat.mul_le_mul_right _ hroom) hcs
     have h2 := run_append_room (P := P) w t ty e i ht hh g xs.length cap cur hg a l.length c (L.flat l) (by rw [hsize]; exact hll) (fun j y hj => hb.flat j y hj) (L.flat_one l) hroom hfit
     refine run _ _ h2 (fin _ g cap _ hBg (setRow_heap w g cur _ e _ hg) hroom hcm ?_ ?_) ⟨rfl, rfl, rfl, by simp, fun k _ hk => setRow_other w g k _ (fun e => hk (by simp [Value.ownBlock, e]))⟩ fun g hg => .inl hg
     ·
      simp only [List.size_toArray, List.length_append, List.length_take, List.length_drop, Array.length_toList]
      omega
     ·
      show (cur.toList.take (xs.length * i.size) ++ L.flat l ++ _).take _ = _
      rw [hsize, htk, List.take_append_of_le_length (by rw [List.length_append, hlx, hll, Nat.add_mul]; omega), List.take_of_length_le (by rw [List.length_append, hlx, hll, Nat.add_mul]; omega)]
    ·
     have holds : ∀ j u, (L.flat xs)[j]? = some u → w.cell? ((⟨g, 0, none⟩ : Addr).add j) = some u := fun j u hj => by
      have hj2 : j < (L.flat xs).length := by
       rcases Nat.lt_or_ge j (L.flat xs).length with h | h
       ·
        exact h
       ·
        rw [List.getElem?_eq_none h] at hj; cases hj
      rw [add_lit, Nat.zero_add, Lib.cell_of_heap hg j, ← Array.getElem?_toList]
      have h2 : (cur.toList.take (xs.length * L.m))[j]? = (L.flat xs)[j]? := by rw [htk]
      rw [List.getElem?_take, if_pos (by rw [← hlx]; exact hj2)] at h2
      rw [h2, hj]
     have hr2 := run_append_grow (P := P) w t ty e i z ht hh hz ⟨g, 0, none⟩ xs.length cap (L.flat xs) (by rw [hsize]; exact hlx) holds a l.length c (L.flat l) (by rw [hsize]; exact hll) (fun j y hj => hb.flat j y hj) oO oO (growslice_fits oO hbytes)
     have hge := grownCap_ge w (xs.length + l.length) cap e
     have hcm2 : grownCap w (xs.length + l.length) cap e ≤ maxLen := grownCap_le_maxLen w (xs.length + l.length) cap e (by unfold maxLen; omega)
     refine run _ _ hr2 (fin _ w.heap.size _ _ hB (heap_alloc_new w.drew _) hge hcm2 ?_ ?_) ⟨rfl, rfl, rfl, by simp, fun k hk _ => (Upd.alloc w.drew _).other k (by show k ≠ w.heap.size; omega)⟩ fun g hg => .inr (by simp only [Value.ownBlock, Option.some.injEq] at hg; omega)
     ·
      simp only [Array.size_append, List.size_toArray, size_zeroCells, hzs, hlx, hll, ← Nat.add_mul]
      exact Nat.le_of_eq (congrArg (· * L.m) oO)
     ·
      simp only [Array.toList_append, List.append_assoc]
      rw [← List.append_assoc, List.take_append_of_le_length (by rw [List.length_append, hlx, hll, Nat.add_mul]; omega), List.take_of_length_le (by rw [List.length_append, hlx, hll, Nat.add_mul]; omega)]
theorem WL.appM {ops : Array Oper} {Q : Exit → Fr → World → Prop} {w : World} {rest : List Oper} {d ty : Nat} {pos : String} {aft : Array Edge} {s x : Operand} {t e : TypeId} {B : Nat} {z v : Value} {xs l : List α} {p : Option Addr} {c by' : Nat}
  (ht : P.underlying t = some (.slice e)) (hi : (P.info? e).map (fun i => (i.zero, i.size, i.bytes)) = some (some z, L.m, by')) (hby2 : Nat.ble by' 1000 = true) (hzs : z.cells.size = L.m)
  (hs : evo f s = some v) (hown : OwnM L e B w v xs) (hx : evo f x = some (.slice p l.length c)) (hb : RowM L w p l)
  (hn : xs.length + l.length ≤ 10000000) (hB : B ≤ w.heap.size) (hd : Nat.blt d n.n = true) (hc : l = [] → c = 0 ∨ p ≠ none)
  (k : ∀ v' w', OwnM L e B w' v' (xs ++ l) → Below B w w' → w.grownBy w' v.ownBlock → (∀ g, v'.ownBlock = some g → v.ownBlock = some g ∨ w.heap.size ≤ g) → WL P n ops Q rest ((d, v') :: f) w') :
  WL P n ops Q (⟨some d, .call ⟨.builtin .append, #[s, x], #[t, t]⟩, ty, pos, aft, none⟩ :: rest) f w := by
 refine WL.appMb ht hi hby2 hzs hs hown hx hb oO ?_ hB hd hc k
 have h1 : by' ≤ 1000 := by simpa using hby2
 have : (xs.length + l.length) * by' ≤ (xs.length + l.length) * 1000 := Nat.mul_le_mul_left _ h1
 omega
/-- a struct of such a row is read -/
theorem Rd.ldS {t : TypeId} {x : Operand} {p : Option Addr} {l : List α} {w : World} {dd : TypeDesc} (hu : P.underlying t = some dd) (hdd : dd.isRow = true) (hi : (P.info? t).map (·.size) = some L.m) (hb : RowM L w p l) (k : Nat) (hk : k < l.length)
  (hx : evo f x = some (.pointer (some ((pA p).add (k * L.m))))) : Rd P (.load t x) f w (.agg (L.V l[k]).toArray) := fun ρ hρ d ty pos aft g => by
 have hl : (loadCells ((pA p).add (k * L.m)) (L.V l[k]).length).run P w = .ok (L.V l[k]).toArray w :=
  run_loadCells_list (P := P) w ((pA p).add (k * L.m)) (L.V l[k]) (fun j v hv => by
   have hj : j < L.m := by
    rcases Nat.lt_or_ge j L.m with h | h
    ·
     exact h
    ·
     rw [List.getElem?_eq_none (by rw [L.len]; exact h)] at hv; cases hv
   rw [add_add, hb.cells k hk j hj, hv])
 cases hq : P.info? t with
 | none => simp [hq] at hi
 | some i =>
  have hs : i.size = (L.V l[k]).length := by rw [L.len]; simpa [hq] using hi
  have hagg : (isAgg t).run P w = .ok true w := by
   unfold isAgg
   rw [Sem.run_bind, run_underlying hu w]
   cases dd <;> simp_all
  unfold execOp
  simp [hρ _ _ hx, Instr.loadAt, Instr.sureAddr, loadVar, Sem.run_bind, hagg, sizeOf, typeInfo, hq, hs, hl]
end
end
section
open Go.RowKit Go.WideShapes Go.ChangeShapes
/-- results, respelt -/
theorem rvE {a b : Value} (h : a = b) : Ending.returned a = .returned b := by rw [h]
theorem rbE {a b : Bool} (h : a = b) : Ending.returned (.bool a) = .returned (.bool b) := by rw [h]
theorem riE {k : IntKind} {a b : Int} (h : a = b) : Ending.returned (.int k a) = .returned (.int k b) := by rw [h]
/-- two results, the first of which lies in memory -/
theorem W.retc2 {P : Program} {fn : Func} {R : Ending → World → Prop} {f : Fr} {w : World} {t u : Tmp} {ty : TypeId} {b : Addr} {v x : Value} (hr : fn.results = #[.cell t ty, .tmp u])
  (ht : look f t = some (.pointer (some b))) (hv : (loadVar ty b).run P w = .ok v w) (hx : look f u = some x) (h : R (.returned (.tuple #[v, x])) w) : Post P fn R .ret f w := by
 unfold Post
 exact ⟨_, fun tmps hh => by
  have e1 := hh _ _ ht; have e2 := hh _ _ hx
  simp only [Array.getD_eq_getD_getElem?] at e1 e2
  simp [results, hr, e1, e2, asAddr, hv], h⟩
section
variable {P : Program} {n : Sh} {f : Fr}
theorem Pure.eqSN {x : Operand} {tx ty e : TypeId} {p : Option Addr} {m c : Nat} (hu : P.underlying tx = some (.slice e)) (hx : evo f x = some (.slice p m c)) : Pure P (.binOp .eql tx x (.const (.slice none 0 0)) ty) f (.bool p.isNone) := fun ρ hρ d ty' pos aft g w => by
 have h4 : ρ (.const (.slice none 0 0)) = .slice none 0 0 := hρ _ _ rfl
 simp [execOp, hρ _ _ hx, h4, eqGuard, Lib.run_eql_slice_nil w tx e p m c 0 0 hu]
theorem Pure.max2 {x y : Operand} {k k' : IntKind} {a b : Int} {ats : Array TypeId} (hx : evo f x = some (.int k a)) (hy : evo f y = some (.int k' b)) : Pure P (.call ⟨.builtin .max, #[x, y], ats⟩) f (.int k (if b > a then b else a)) := fun ρ hρ d ty pos aft g w => by
 simp [execOp, resolve, invoke, builtin, hρ _ _ hx, hρ _ _ hy, run_max_int2]
theorem Pure.min2 {x y : Operand} {k k' : IntKind} {a b : Int} {ats : Array TypeId} (hx : evo f x = some (.int k a)) (hy : evo f y = some (.int k' b)) : Pure P (.call ⟨.builtin .min, #[x, y], ats⟩) f (.int k (if b < a then b else a)) := fun ρ hρ d ty pos aft g w => by
 simp [execOp, resolve, invoke, builtin, hρ _ _ hx, hρ _ _ hy, run_min_int2]
/-- the address of an element of several cells -/
theorem Pure.ixm {tx e : TypeId} {x y : Operand} {p : Option Addr} {l c sz : Nat} {i : Int} {k : IntKind} (hu : P.underlying tx = some (.slice e)) (hs : ∀ w, (sizeOf e).run P w = .ok sz w) (hx : evo f x = some (.slice p l c))
  (hi : evo f y = some (.int k i)) (hp : p = some (pA p)) (j : Nat) (e' : i = j) (hj : j < l) : Pure P (.indexAddr tx x y) f (.pointer (some ((pA p).add (j * sz)))) :=
 Pure.ixa hu hs (by rw [hx]; rw [← hp]) hi j e' hj
theorem RowM.field {α : Type} {L : Lay α} {w : World} {p : Option Addr} {l : List α} (h : RowM L w p l) (k : Nat) (hk : k < l.length) (i : Nat) (hi : i < L.m) : w.cell? (((pA p).add (k * L.m)).add i) = (L.V l[k])[i]? := by
 rw [add_add]; exact h.cells k hk i hi
theorem run_equalIn_ptr_nil (w : World) (d : Nat) (t e : TypeId) (a : Option Addr) (h : P.underlying t = some (.pointer e)) :
  (Op.equalIn (d + 1) t (.pointer a) (.pointer none)).run P w = .ok a.isNone w := by
 cases a <;> simp [Op.equalIn, run_underlying h]
theorem Pure.eqP {x : Operand} {tx ty e : TypeId} {a : Option Addr} (hu : P.underlying tx = some (.pointer e)) (hx : evo f x = some (.pointer a)) : Pure P (.binOp .eql tx x (.const (.pointer none)) ty) f (.bool a.isNone) := fun ρ hρ d ty' pos aft g w => by
 have h4 : ρ (.const (.pointer none)) = .pointer none := hρ _ _ rfl
 have h5 : (binOp .eql tx (.pointer a) (.pointer none)).run P w = .ok (.bool a.isNone) w := by
  simp only [binOp]
  simp [Op.equal, Op.maxDepth, run_equalIn_ptr_nil w 9999 tx e a hu]
 simp [execOp, hρ _ _ hx, h4, eqGuard, h5]
end
end
section
open Go.RowKit Go.WideShapes Go.ChangeShapes
theorem fold_set : ∀ (vs : List Value) (s o : Nat) (pre mid post : List Value), pre.length = o + s → mid.length = vs.length →
  (vs.zipIdx s).foldl (fun (cs : Array Value) (x : Value × Nat) => cs.setIfInBounds (o + x.2) x.1) (pre ++ mid ++ post).toArray = (pre ++ vs ++ post).toArray
 | [], s, o, pre, mid, post, h1, h2 => by
  obtain rfl : mid = [] := List.length_eq_zero_iff.1 (by simpa using h2)
  rfl
 | v :: r, s, o, pre, [], post, h1, h2 => by simp at h2
 | v :: r, s, o, pre, m0 :: mr, post, h1, h2 => by
  have ih := fold_set r (s + 1) o (pre ++ [v]) mr post (by simp; omega) (by simpa using h2)
  rw [List.zipIdx_cons, List.foldl_cons]
  have e : (pre ++ m0 :: mr ++ post).toArray.setIfInBounds (o + s) v = (pre ++ [v] ++ mr ++ post).toArray := by
   rw [← h1]
   simp
  rw [e, ih]
  simp
theorem fill_flat {α : Type} (L : Lay α) : ∀ (xs : List α) (i : Nat) (pre post : List Value), pre.length = i * L.m → post.length = xs.length * L.m →
  Instr.fill (fun i => some (i * L.m, L.m)) (pre ++ post).toArray ((List.range' i xs.length).zip (xs.map fun x => Value.agg (L.V x).toArray)) = some (pre ++ L.flat xs).toArray
 | [], i, pre, post, h1, h2 => by
  obtain rfl : post = [] := List.length_eq_zero_iff.1 (by simpa using h2)
  rfl
 | x :: r, i, pre, post, h1, h2 => by
  have hlx := L.len x
  have h2' : post.length = r.length * L.m + L.m := by rw [h2, List.length_cons, Nat.succ_mul]
  have ih := fill_flat L r (i + 1) (pre ++ L.V x) (post.drop L.m) (by rw [List.length_append, h1, hlx, Nat.succ_mul]) (by rw [List.length_drop]; omega)
  have hf := fold_set (L.V x) 0 (i * L.m) pre (post.take L.m) (post.drop L.m) oO (by rw [List.length_take, hlx]; omega)
  rw [List.append_assoc pre, List.take_append_drop] at hf
  have hc : (Value.agg (L.V x).toArray).cells = (L.V x).toArray := rfl
  rw [List.length_cons, List.range'_succ, List.map_cons, List.zip_cons_cons]
  conv => lhs; unfold Instr.fill
  simp only [hc]
  rw [if_neg (by simp [hlx]; omega)]
  refine Eq.trans (congrArg (fun c => Instr.fill (fun i => some (i * L.m, L.m)) c ((List.range' (i + 1) r.length).zip (r.map fun x => Value.agg (L.V x).toArray))) ?_) (ih.trans (by simp [Lay.flat]))
  rw [← hf]
  simp
section
variable {P : Program} {n : Sh} {f : Fr} {α : Type} {L : Lay α}
/-- a slice made of its structs -/
theorem WL.bslM {ops : Array Oper} {Q : Exit → Fr → World → Prop} {w : World} {rest : List Oper} {d ty : Nat} {pos : String} {aft : Array Edge} {t e : TypeId} {len : Nat} {ps : List (Nat × Operand)} {vs : List Value} {z : Value} (xs : List α)
  (hu : P.underlying t = some (.slice e)) (hs : ∀ w, (sizeOf e).run P w = .ok L.m w) (hz : ∀ w, (zeroValue e).run P w = .ok z w) (_hzs : z.cells.size = L.m) (hl0 : Nat.blt 0 len = true) (hl1 : Nat.ble (len * L.m) 1000 = true)
  (hx : evs f (ps.map (·.2)) = some vs) (hi : ps.map (·.1) = List.range' 0 len) (hv : vs = xs.map fun x => Value.agg (L.V x).toArray) (hl : len = xs.length) (hd : Nat.blt d n.n = true)
  (k : ∀ b w1, b = w.heap.size → OwnM L e b w1 (.slice (some ⟨b, 0, none⟩) len len) xs → Upd b w w1 → w1.heap.size = b + 1 → WL P n ops Q rest ((d, .slice (some ⟨b, 0, none⟩) len len) :: f) w1) :
  WL P n ops Q (⟨some d, .buildSlice t len ps.toArray, ty, pos, aft, none⟩ :: rest) f w := by
 have h0 : 0 < len := by simpa [Nat.blt_eq] using hl0
 have h1 : len * L.m ≤ 1000 := by simpa using hl1
 have hlm : len ≤ len * L.m := Nat.le_mul_of_pos_right _ L.pos
 refine WL.run hd (w' := w.alloc (.cells (L.flat xs).toArray e)) (v := .slice (some ⟨w.heap.size, 0, none⟩) len len) (fun ρ hρ => ?_) (k _ _ rfl (.inr ⟨w.heap.size, len, _, by rw [← hl], Nat.le_refl _, Blk.alloc _ _ _, by rw [← hl]; exact Nat.le_refl _, by unfold maxLen; omega, by rw [List.size_toArray, L.flat_len, ← hl]; exact Nat.le_refl _, by show (L.flat xs).take _ = _; rw [List.take_of_length_le (by rw [L.flat_len]; exact Nat.le_refl _)]⟩) (Upd.alloc _ _) (by simp))
 have e1 := evs_map hρ _ _ hx
 have e2 : (ps.toArray.map fun (i, x) => (i, ρ x)).toList = (ps.map (·.1)).zip vs := by
  rw [← e1]
  simp only [List.map_map, Array.toList_map]
  clear hx hi hv e1
  induction ps with
  | nil => rfl
  | cons p r ih => simpa using ih
 have hfill := fill_flat L xs 0 [] ((Array.range (len * L.m)).map (fun x => z.cells[x % z.cells.size]!)).toList (by simp) (by simp [hl])
 simp only [List.nil_append, Array.toArray_toList] at hfill
 rw [hi, hl, hv] at e2
 rw [← hl] at e2 hfill
 have hne : ¬ len * L.m = 0 := by omega
 have hbig : ¬ 16777216 < len * L.m := by omega
 unfold execOp
 simp only [Instr.buildSlice, Sem.run_bind, run_underlying hu, hs, Result.andThen_ok, e2]
 rw [if_neg oO, if_neg hne]
 simp only [Sem.run_bind, hz, Sem.run_pure, Result.andThen_ok, hfill]
 simp [newRow]
theorem made_flat (L : Lay α) (o : α) (cs : Array Value) (hc : cs.toList = L.V o) (j : Nat) : (madeCells cs (j * L.m)).toList = L.flat (List.replicate j o) := by
 have hcs : cs.size = L.m := by rw [← Array.length_toList, hc, L.len]
 refine List.ext_getElem? fun q => ?_
 have hpos := L.pos
 rcases Nat.lt_or_ge q (j * L.m) with hq | hq
 ·
  have hqj : q / L.m < j := (Nat.div_lt_iff_lt_mul hpos).2 hq
  have hqm : q % L.m < L.m := Nat.mod_lt _ hpos
  have e := L.flat_at (List.replicate j o) (q / L.m) (by simpa using hqj) (q % L.m) hqm
  rw [Nat.mul_comm, Nat.div_add_mod] at e
  rw [e, List.getElem_replicate, ← hc]
  simp [madeCells, hq, hcs, hqm]
 ·
  rw [List.getElem?_eq_none (by simp [madeCells]; exact hq), List.getElem?_eq_none (by rw [L.flat_len, List.length_replicate]; exact hq)]
end
theorem OwnM.rowp {α : Type} {L : Lay α} {e : TypeId} {B n c : Nat} {w : World} {p : Option Addr} {l : List α} (h : OwnM L e B w (.slice p n c) l) : RowM L w p l := by
 obtain ⟨p', c', hv, hr, -⟩ := h.row
 cases hv
 exact hr
end
section
open Go.RowKit Go.WideShapes Go.ChangeShapes
/-- only this block of the old ones turned -/
structure Only (o : Option Nat) (w w1 : World) : Prop where
 os : w1.os = w.os
 tape : w1.tape = w.tape
 output : w1.output = w.output
 size : w1.heap.size = w.heap.size
 block : ∀ k, o ≠ some k → w1.heap[k]? = w.heap[k]?
theorem Only.refl (o : Option Nat) (w : World) : Only o w w := ⟨rfl, rfl, rfl, rfl, fun _ _ => rfl⟩
theorem Only.of_upd {g : Nat} {w w1 : World} (h : Upd g w w1) (hs : w1.heap.size = w.heap.size) : Only (some g) w w1 := ⟨h.os, h.tape, h.output, hs, fun k hk => h.other k fun e => hk (by rw [e])⟩
theorem Only.keepB {o : Option Nat} {w w1 : World} (h : Only o w w1) (B : Nat) (S : List Nat) (hS : ∀ g, o = some g → g ∈ S ∨ B ≤ g) : KeepB B S w w1 :=
 ⟨h.os, h.tape, h.output, by rw [h.size]; exact Nat.le_refl _, fun k hk hn => h.block k fun e => by rcases hS k e with h1 | h1 <;> first | exact hn h1 | omega⟩
theorem Blk.only {o : Option Nat} {w w1 : World} {c : Nat} {cs : Array Value} {t : TypeId} (h : Blk w c cs t) (ho : Only o w w1) (hc : o ≠ some c) : Blk w1 c cs t := (ho.block c hc).trans h
theorem OwnM.only {α : Type} {L : Lay α} {e : TypeId} {B : Nat} {o : Option Nat} {w w1 : World} {v : Value} {l : List α} (h : OwnM L e B w v l) (ho : Only o w w1) (hc : ∀ g, v.ownBlock = some g → o ≠ some g) : OwnM L e B w1 v l := h.same fun g hg => ho.block g (hc g hg)
section
variable {P : Program} {n : Sh} {f : Fr} {α : Type} {L : Lay α}
/-- make([]T, j), longer -/
theorem WL.mkN {ops : Array Oper} {Q : Exit → Fr → World → Prop} {w : World} {rest : List Oper} {d ty : Nat} {pos : String} {aft : Array Edge} {t e : TypeId} {x y : Operand} {z : Value} {by' : Nat} {kl kc : IntKind} (o : α) (j : Nat)
  (ht : P.underlying t = some (.slice e)) (hi : (P.info? e).map (fun i => (i.zero, i.size, i.bytes)) = some (some z, L.m, by')) (hby2 : Nat.ble by' 1000 = true) (hz : z.cells.toList = L.V o)
  (hx : evo f x = some (.int kl j)) (hy : evo f y = some (.int kc j)) (hj : j ≤ 100000) (hm : L.m ≤ 100) (hd : Nat.blt d n.n = true)
  (k : ∀ w1, OwnM L e w.heap.size w1 (.slice (some ⟨w.heap.size, 0, none⟩) j j) (List.replicate j o) → Below w.heap.size w w1 → WL P n ops Q rest ((d, .slice (some ⟨w.heap.size, 0, none⟩) j j) :: f) w1) :
  WL P n ops Q (⟨some d, .makeSlice t x y, ty, pos, aft, none⟩ :: rest) f w := by
 cases hh : P.info? e with
 | none => rw [hh] at hi; cases hi
 | some i =>
  rw [hh] at hi
  simp only [Option.map_some, Option.some.injEq, Prod.mk.injEq] at hi
  obtain ⟨hz0, hsize, hby⟩ := hi
  have hby2' : i.bytes ≤ 1000 := by rw [hby]; simpa using hby2
  have hb1 : i.bytes * j ≤ 1000 * j := Nat.mul_le_mul_right _ hby2'
  have hc1 : j * L.m ≤ j * 100 := Nat.mul_le_mul_left _ hm
  obtain ⟨w', h1, h2, h3⟩ := run_makeSlice_full (P := P) (w := w) w.heap.size t e i z L.m ht hh hz0 hsize kl kc j oO oO (by unfold maxLen; omega) (Nat.le_refl _)
  rw [made_flat L o z.cells hz j] at h2
  have h2' : OwnM L e w.heap.size w' (.slice (some ⟨w.heap.size, 0, none⟩) j j) (List.replicate j o) := OwnM.of (by rw [List.length_replicate]; exact h2)
  refine WL.run hd (fun ρ hρ => ?_) (k w' h2' ((Below.refl _ _).grown h3 (Nat.le_refl _) fun k hk => by cases hk))
  unfold execOp
  simp [hρ _ _ hx, hρ _ _ hy, h1]
/-- elements copied into the middle of a row of the call's own -/
theorem WL.cpG {ops : Array Oper} {Q : Exit → Fr → World → Prop} {w : World} {rest : List Oper} {d ty : Nat} {pos : String} {aft : Array Edge} {s x : Operand} {t u e : TypeId} {B : Nat} {ys l : List α} {p q qs : Option Addr} {nn c c' a b : Nat} (i : Nat)
    (ht : P.underlying t = some (.slice e)) (hs : ∀ w, (sizeOf e).run P w = .ok L.m w)
    (hown : OwnM L e B w (.slice p nn c) l) (hi : i + ys.length ≤ l.length)
    (hp : evo f s = some (.slice q a b)) (hq0 : 0 < ys.length → q = some ((pA p).add (i * L.m))) (ha : ys.length ≤ a) (hx : evo f x = some (.slice qs ys.length c')) (hb : RowM L w qs ys) (hd : Nat.blt d n.n = true)
    (k : ∀ w1, Only (Value.slice p nn c).ownBlock w w1 → OwnM L e B w1 (.slice p nn c) (l.take i ++ ys ++ l.drop (i + ys.length)) → WL P n ops Q rest ((d, .int .i64 (ys.length : Int)) :: f) w1) :
    WL P n ops Q (⟨some d, .call ⟨.builtin .copy, #[s, x], #[t, u]⟩, ty, pos, aft, none⟩ :: rest) f w := by
  by_cases hy : 0 < ys.length
  · rcases hown with ⟨h1, h2⟩ | ⟨g, cap, cur, h1, hB, hg, hnc, hcm, hcs, htake⟩
    · rw [h2] at hi; simp only [List.length_nil] at hi; omega
    · cases h1
      have hq := hb.isp hy
      have hly := L.flat_len ys
      have hll := L.flat_len l
      have hpp : q = some ⟨g, i * L.m, none⟩ := by
        rw [hq0 hy, show pA (some (⟨g, 0, none⟩ : Addr)) = ⟨g, 0, none⟩ from rfl, add_lit, Nat.zero_add]
      rw [hpp] at hp
      have hfit0 : i * L.m + ys.length * L.m ≤ l.length * L.m := by
        rw [← Nat.add_mul]; exact Nat.mul_le_mul_right _ hi
      have hfit1 : l.length * L.m ≤ c * L.m := Nat.mul_le_mul_right _ hnc
      have hld := run_loadCells_list (P := P) w (pA qs) (L.flat ys) hb.flat
      have hst := run_storeCells_at P g (i * L.m) e (L.flat ys) 0 cur w hg (by rw [hly]; omega) (L.flat_one ys)
      rw [hly] at hld
      have hlt : (l.take i ++ ys ++ l.drop (i + ys.length)).length = l.length := by simp only [List.length_append, List.length_take, List.length_drop]; omega
      refine WL.run hd (w' := w.setRow g (cur.toList.take (i * L.m + 0) ++ L.flat ys ++ cur.toList.drop (i * L.m + 0 + (L.flat ys).length)).toArray) (v := .int .i64 (ys.length : Int)) (fun ρ hρ => ?_)
        (k _ (Only.of_upd (Upd.setRow _ _ _) (by simp [World.setRow])) (.inr ⟨g, c, _, by rw [hlt], hB, setRow_heap w g cur _ e _ hg, by rw [hlt]; exact hnc, hcm, ?_, ?_⟩))
      · rw [hq] at hx
        unfold execOp
        simp only [resolve, invoke, builtin, Sem.run_bind, Sem.run_pure, Result.andThen_ok, List.map_toArray, List.map_cons, List.map_nil, hρ _ _ hp, hρ _ _ hx]
        simp [Builtin.copy_, run_underlying ht, Builtin.lenOf, Builtin.firstCells, hs, hld, hst, goInt, ha]
      · simp only [List.size_toArray, List.length_append, List.length_take, List.length_drop, Array.length_toList, hly]
        omega
      · have e1 : cur.toList.take (i * L.m) = L.flat (l.take i) := by
          rw [← L.flat_take, ← htake, List.take_take, Nat.min_eq_left oO]
        have e2 : (cur.toList.drop (i * L.m + ys.length * L.m)).take (l.length * L.m - (i * L.m + ys.length * L.m)) = L.flat (l.drop (i + ys.length)) := by
          rw [← L.flat_drop, ← htake, List.drop_take, Nat.add_mul]
        rw [hlt, hly, Nat.add_zero, e1, L.flat_append, L.flat_append, ← e2]
        show List.take _ (L.flat (l.take i) ++ L.flat ys ++ _) = _
        rw [List.take_append, List.take_of_length_le (by rw [List.length_append, L.flat_len, hly, List.length_take, Nat.min_eq_left oO]; omega)]
        congr 2
        rw [List.length_append, L.flat_len, hly, List.length_take, Nat.min_eq_left oO]
  · obtain rfl : ys = [] := List.length_eq_zero_iff.1 oO
    refine WL.run hd (w' := w) (v := .int .i64 (([] : List α).length : Int)) (fun ρ hρ => ?_) (k w (Only.refl _ _) (by simpa using hown))
    unfold execOp
    simp only [resolve, invoke, builtin, Sem.run_bind, Sem.run_pure, Result.andThen_ok, List.map_toArray, List.map_cons, List.map_nil, hρ _ _ hp, hρ _ _ hx]
    cases qs <;> cases q <;> simp [Builtin.copy_, run_underlying ht, Builtin.lenOf, Builtin.firstCells, hs, goInt, storeCells, loadCells, loadCellsFrom]
end
theorem Blk.grown {w w1 : World} {c : Nat} {row : Option Nat} {cs : Array Value} {t : TypeId} (h : Blk w c cs t) (hg : w.grownBy w1 row) (hc : row ≠ some c) : Blk w1 c cs t := (hg.block c h.lt fun e => hc e.symm).trans h
theorem z_le {n : Nat} : 0 ≤ n := Nat.zero_le n
end
section
theorem mixed : Tryz.prog.follows .mixedOrders = true := by kernel_rfl
theorem hb3 : HasBody Tryz.prog 3 := hasBody func3 kR
theorem hb4 : HasBody Tryz.prog 4 := hasBody func4 kR
theorem hb5 : HasBody Tryz.prog 5 := hasBody func5 kR
theorem hb6 : HasBody Tryz.prog 6 := hasBody func6 kR
theorem hb7 : HasBody Tryz.prog 7 := hasBody func7 kR
theorem hb8 : HasBody Tryz.prog 8 := hasBody func8 kR
theorem hb9 : HasBody Tryz.prog 9 := hasBody func9 kR
theorem hb10 : HasBody Tryz.prog 10 := hasBody func10 kR
theorem hb12 : HasBody Tryz.prog 12 := hasBody func12 kR
theorem hb13 : HasBody Tryz.prog 13 := hasBody func13 kR
theorem hb14 : HasBody Tryz.prog 14 := hasBody func14 kR
theorem hb15 : HasBody Tryz.prog 15 := hasBody func15 kR
theorem hb16 : HasBody Tryz.prog 16 := hasBody func16 kR
theorem hb17 : HasBody Tryz.prog 17 := hasBody func17 kR
theorem hb18 : HasBody Tryz.prog 18 := hasBody func18 kR
theorem hb19 : HasBody Tryz.prog 19 := hasBody func19 kR
theorem hb20 : HasBody Tryz.prog 20 := hasBody func20 kR
theorem hb21 : HasBody Tryz.prog 21 := hasBody func21 kR
theorem hb22 : HasBody Tryz.prog 22 := hasBody func22 kR
theorem hb23 : HasBody Tryz.prog 23 := hasBody func23 kR
theorem hb24 : HasBody Tryz.prog 24 := hasBody func24 kR
theorem hb25 : HasBody Tryz.prog 25 := hasBody func25 kR
theorem hb26 : HasBody Tryz.prog 26 := hasBody func26 kR
theorem hb27 : HasBody Tryz.prog 27 := hasBody func27 kR
theorem hb29 : HasBody Tryz.prog 29 := hasBody func29 kR
theorem hb30 : HasBody Tryz.prog 30 := hasBody func30 kR
theorem hb31 : HasBody Tryz.prog 31 := hasBody func31 kR
theorem hb32 : HasBody Tryz.prog 32 := hasBody func32 kR
theorem hb33 : HasBody Tryz.prog 33 := hasBody func33 kR
theorem hb34 : HasBody Tryz.prog 34 := hasBody func34 kR
theorem hb35 : HasBody Tryz.prog 35 := hasBody func35 kR
theorem hb36 : HasBody Tryz.prog 36 := hasBody func36 kR
theorem hb37 : HasBody Tryz.prog 37 := hasBody func37 kR
theorem hb38 : HasBody Tryz.prog 38 := hasBody func38 kR
theorem hb39 : HasBody Tryz.prog 39 := hasBody func39 kR
theorem hb40 : HasBody Tryz.prog 40 := hasBody func40 kR
theorem hb41 : HasBody Tryz.prog 41 := hasBody func41 kR
theorem hb42 : HasBody Tryz.prog 42 := hasBody func42 kR
theorem hb43 : HasBody Tryz.prog 43 := hasBody func43 kR
theorem hb44 : HasBody Tryz.prog 44 := hasBody func44 kR
theorem hb45 : HasBody Tryz.prog 45 := hasBody func45 kR
theorem hb46 : HasBody Tryz.prog 46 := hasBody func46 kR
theorem hb47 : HasBody Tryz.prog 47 := hasBody func47 kR
theorem hb48 : HasBody Tryz.prog 48 := hasBody func48 kR
theorem hb49 : HasBody Tryz.prog 49 := hasBody func49 kR
theorem hb50 : HasBody Tryz.prog 50 := hasBody func50 kR
theorem hb51 : HasBody Tryz.prog 51 := hasBody func51 kR
theorem hb52 : HasBody Tryz.prog 52 := hasBody func52 kR
theorem hb53 : HasBody Tryz.prog 53 := hasBody func53 kR
theorem hb54 : HasBody Tryz.prog 54 := hasBody func54 kR
theorem hb55 : HasBody Tryz.prog 55 := hasBody func55 kR
theorem hb56 : HasBody Tryz.prog 56 := hasBody func56 kR
theorem hb57 : HasBody Tryz.prog 57 := hasBody func57 kR
theorem hb58 : HasBody Tryz.prog 58 := hasBody func58 kR
theorem hb59 : HasBody Tryz.prog 59 := hasBody func59 kR
theorem hb70 : HasBody Tryz.prog 70 := hasBody func70 kR
theorem hb71 : HasBody Tryz.prog 71 := hasBody func71 kR
theorem hb72 : HasBody Tryz.prog 72 := hasBody func72 kR
theorem hb73 : HasBody Tryz.prog 73 := hasBody func73 kR
theorem isz27 : (Tryz.prog.info? 27).map (·.size) = some 8 := by kernel_rfl
theorem blt27 : Tryz.prog.built 27 = fun parts => Instr.fill (([(0, 1), (1, 1), (2, 1), (3, 1), (4, 1), (5, 1), (6, 1), (7, 1)] : List (Nat × Nat)).toArray[·]?) [Value.int .i64 0, Value.bool false, Value.int .i64 0, Value.int .i64 0, Value.string ⟨#[]⟩, Value.int .i64 0, Value.int .i64 0, Value.int .i64 0].toArray parts := by kernel_rfl
theorem isz42 : (Tryz.prog.info? 42).map (·.size) = some 6 := by kernel_rfl
theorem blt48 : Tryz.prog.built 48 = fun parts => Instr.fill (([(0, 1), (1, 1), (2, 1), (3, 1), (4, 1), (5, 1)] : List (Nat × Nat)).toArray[·]?) [Value.int .i64 0, Value.int .i64 0, Value.slice none 0 0, Value.slice none 0 0, Value.slice none 0 0, Value.int .i64 0].toArray parts := by kernel_rfl
theorem isz53 : (Tryz.prog.info? 53).map (·.size) = some 10 := by kernel_rfl
theorem blt53 : Tryz.prog.built 53 = fun parts => Instr.fill (([(0, 1), (1, 1), (2, 1), (3, 1), (4, 1), (5, 1), (6, 1), (7, 1), (8, 1), (9, 1)] : List (Nat × Nat)).toArray[·]?) [Value.int .i64 0, Value.bool false, Value.int .i64 0, Value.int .i64 0, Value.string ⟨#[]⟩, Value.pointer none, Value.pointer none, Value.pointer none, Value.int .i64 0, Value.int .i64 0].toArray parts := by kernel_rfl
theorem blt65 : Tryz.prog.built 65 = fun parts => Instr.fill (([(0, 1), (1, 1), (2, 1), (3, 1), (4, 1), (5, 1)] : List (Nat × Nat)).toArray[·]?) [Value.int .i64 0, Value.slice none 0 0, Value.slice none 0 0, Value.slice none 0 0, Value.slice none 0 0, Value.slice none 0 0].toArray parts := by kernel_rfl
theorem isz72 : (Tryz.prog.info? 72).map (·.size) = some 1 := by kernel_rfl
theorem blt72 : Tryz.prog.built 72 = fun parts => Instr.fill (([(0, 1)] : List (Nat × Nat)).toArray[·]?) [Value.pointer none].toArray parts := by kernel_rfl
theorem blt90 : Tryz.prog.built 90 = fun parts => Instr.fill (([(0, 1), (1, 1), (2, 1), (3, 1), (4, 1)] : List (Nat × Nat)).toArray[·]?) [Value.slice none 0 0, Value.slice none 0 0, Value.int .i64 0, Value.int .i64 0, Value.int .i64 0].toArray parts := by kernel_rfl
theorem blt103 : Tryz.prog.built 103 = fun parts => Instr.fill (([(0, 1), (1, 1)] : List (Nat × Nat)).toArray[·]?) [Value.slice none 0 0, Value.int .i64 0].toArray parts := by kernel_rfl
theorem blt105 : Tryz.prog.built 105 = fun parts => Instr.fill (([(0, 1), (1, 1)] : List (Nat × Nat)).toArray[·]?) [Value.slice none 0 0, Value.int .i64 0].toArray parts := by kernel_rfl
theorem blt109 : Tryz.prog.built 109 = fun parts => Instr.fill (([(0, 1), (1, 1), (2, 1)] : List (Nat × Nat)).toArray[·]?) [Value.int .i64 0, Value.int .i64 0, Value.slice none 0 0].toArray parts := by kernel_rfl
theorem isz114 : (Tryz.prog.info? 114).map (·.size) = some 19 := by kernel_rfl
theorem blt114 : Tryz.prog.built 114 = fun parts => Instr.fill (([(0, 1), (1, 1), (2, 1), (3, 16)] : List (Nat × Nat)).toArray[·]?) [Value.int .i64 0, Value.int .i64 0, Value.int .i64 0, Value.int .i64 0, Value.bool false, Value.int .i64 0, Value.int .i64 0, Value.string ⟨#[]⟩, Value.int .i64 0, Value.int .i64 0, Value.int .i64 0, Value.int .i64 0, Value.bool false, Value.int .i64 0, Value.int .i64 0, Value.string ⟨#[]⟩, Value.int .i64 0, Value.int .i64 0, Value.int .i64 0].toArray parts := by kernel_rfl
theorem isz134 : (Tryz.prog.info? 134).map (·.size) = some 3 := by kernel_rfl
end
section
/-- an object -/
structure ObjV where
 kind : Int
 exec : Bool
 access : Int
 n : Int
 name : List UInt8
 ref : Int
 frm : Int
 len : Int
def objV (x : ObjV) : List Value := [.int .i64 x.kind, .bool x.exec, .int .i64 x.access, .int .i64 x.n, .string (bs x.name), .int .i64 x.ref, .int .i64 x.frm, .int .i64 x.len]
def objL : Lay ObjV := ⟨8, objV, by decide, fun _ => rfl, fun x v hv => by simp only [objV, List.mem_cons, List.not_mem_nil, or_false] at hv; rcases hv with rfl | rfl | rfl | rfl | rfl | rfl | rfl | rfl <;> rfl⟩
theorem inf27 : (Tryz.prog.info? 27).map (fun i => (i.zero, i.size, i.bytes)) = some (some (.agg #[.int .i64 0, .bool false, .int .i64 0, .int .i64 0, .string ⟨#[]⟩, .int .i64 0, .int .i64 0, .int .i64 0]), 8, 72) := by kernel_rfl
end
section
/-- a slice's three parts -/
structure SlV where
 p : Option Addr
 n : Nat
 c : Nat
def SlV.v (x : SlV) : Value := .slice x.p x.n x.c
theorem one_nil : ∀ v ∈ ([] : List Value), v.oneCell' = true := fun v hv => by cases hv
theorem one_cons {a : Value} {l : List Value} (ha : a.oneCell' = true) (hl : ∀ v ∈ l, v.oneCell' = true) : ∀ v ∈ a :: l, v.oneCell' = true := fun v hv => by
 rcases List.mem_cons.1 hv with rfl | h
 ·
  exact ha
 ·
  exact hl v h
theorem one_app {a b : List Value} (ha : ∀ v ∈ a, v.oneCell' = true) (hb : ∀ v ∈ b, v.oneCell' = true) : ∀ v ∈ a ++ b, v.oneCell' = true := fun v hv => by
 rcases List.mem_append.1 hv with h | h
 ·
  exact ha v h
 ·
  exact hb v h
def slL : Lay SlV := ⟨1, fun x => [x.v], by decide, fun _ => rfl, fun _ => one_cons rfl one_nil⟩
def byL : Lay UInt8 := ⟨1, fun c => [.int .u8 (c.toNat : Int)], by decide, fun _ => rfl, fun _ => one_cons rfl one_nil⟩
def ptL : Lay Nat := ⟨1, fun b => [.pointer (some ⟨b, 0, none⟩)], by decide, fun _ => rfl, fun _ => one_cons rfl one_nil⟩
theorem objV_one (x : ObjV) : ∀ v ∈ objV x, v.oneCell' = true := objL.one x
def prL : Lay (ObjV × ObjV) := ⟨16, fun x => objV x.1 ++ objV x.2, by decide, fun _ => rfl, fun x => one_app (objV_one x.1) (objV_one x.2)⟩
structure ChV where
 kind : Int
 ref : Int
 pos : Int
 old : ObjV × ObjV
def chL : Lay ChV := ⟨19, fun x => .int .i64 x.kind :: .int .i64 x.ref :: .int .i64 x.pos :: (objV x.old.1 ++ objV x.old.2), by decide, fun _ => rfl, fun x => one_cons rfl (one_cons rfl (one_cons rfl (one_app (objV_one x.old.1) (objV_one x.old.2))))⟩
structure SzV where
 texts : Nat
 lists : Nat
 dicts : Nat
 free : Int
 changes : Nat
def szL : Lay SzV := ⟨5, fun x => [.int .i64 (x.texts : Int), .int .i64 (x.lists : Int), .int .i64 (x.dicts : Int), .int .i64 x.free, .int .i64 (x.changes : Int)], by decide, fun _ => rfl, fun _ => one_cons rfl (one_cons rfl (one_cons rfl (one_cons rfl (one_cons rfl one_nil))))⟩
/-- a dictionary -/
structure DicV where
 most : Int
 access : Int
 pairs : List (ObjV × ObjV)
/-- the store -/
structure StoV where
 free : Int
 texts : List (List UInt8)
 lists : List (List ObjV)
 dicts : List DicV
 changes : List ChV
 marks : List SzV
def ob0 : ObjV := ⟨0, false, 0, 0, [], 0, 0, 0⟩
/-- what a block is for -/
inductive Tag | no | st | row (k : Nat) | el (k i : Nat)
abbrev Lab := Nat → Tag
def labd (lab : Lab) (v : Value) (t : Tag) : Prop := ∀ g, v.ownBlock = some g → lab g = t
theorem labd.nil (lab : Lab) (t : Tag) : labd lab (.slice none 0 0) t := fun g hg => by cases hg
/-- rows in a row -/
structure RoR {β : Type} (L : Lay β) (te e : TypeId) (k : Nat) (lab : Lab) (w : World) (v : Value) (xs : List SlV) (ll : List (List β)) : Prop where
 own : OwnM slL te 0 w v xs
 la : labd lab v (.row k)
 len : xs.length = ll.length
 el : ∀ (i : Nat) (x : SlV) (l : List β), xs[i]? = some x → ll[i]? = some l → OwnM L e 0 w x.v l ∧ labd lab x.v (.el k i)
/-- dictionaries in a row -/
structure DoR (lab : Lab) (w : World) (v : Value) (gs : List Nat) (xs : List SlV) (ll : List DicV) : Prop where
 own : OwnM ptL 106 0 w v gs
 la : labd lab v (.row 3)
 len : gs.length = ll.length
 len2 : xs.length = ll.length
 el : ∀ (i : Nat) (g : Nat) (x : SlV) (d : DicV), gs[i]? = some g → xs[i]? = some x → ll[i]? = some d →
  Blk w g #[.int .i64 d.most, .int .i64 d.access, x.v] 109 ∧ lab g = .el 3 i ∧ OwnM prL 112 0 w x.v d.pairs ∧ labd lab x.v (.el 4 i)
/-- where the store has what -/
structure StH where
 vt : Value
 vl : Value
 vd : Value
 vc : Value
 vm : Value
 ts : List SlV
 ls : List SlV
 ds : List Nat
 dp : List SlV
structure St (lab : Lab) (w : World) (b : Nat) (H : StH) (S : StoV) : Prop where
 lb : lab b = .st
 blk : Blk w b #[.int .i64 S.free, H.vt, H.vl, H.vd, H.vc, H.vm] 65
 tx : RoR byL 35 5 1 lab w H.vt H.ts S.texts
 li : RoR objL 30 27 2 lab w H.vl H.ls S.lists
 di : DoR lab w H.vd H.ds H.dp S.dicts
 oc : OwnM chL 114 0 w H.vc S.changes
 lc : labd lab H.vc (.row 5)
 ox : OwnM szL 229 0 w H.vm S.marks
 lm : labd lab H.vm (.row 6)
/-- .. but for its places: F are its blocks -/
def Sto (w : World) (b : Nat) (F : Nat → Prop) (S : StoV) : Prop :=
 ∃ (lab : Lab) (H : StH), (∀ g, F g ↔ lab g ≠ .no) ∧ (∀ g, lab g ≠ .no → g < w.heap.size) ∧ St lab w b H S
section
variable {w w1 : World} {lab : Lab}
theorem RoR.same {β : Type} {L : Lay β} {te e : TypeId} {k : Nat} {v : Value} {xs : List SlV} {ll : List (List β)} (h : RoR L te e k lab w v xs ll)
  (hs : ∀ g, lab g = .row k ∨ (∃ i, lab g = .el k i) → w1.heap[g]? = w.heap[g]?) : RoR L te e k lab w1 v xs ll :=
 ⟨h.own.same fun g hg => hs g (.inl (h.la g hg)), h.la, h.len, fun i x l hx hl => ⟨(h.el i x l hx hl).1.same fun g hg => hs g (.inr ⟨i, (h.el i x l hx hl).2 g hg⟩), (h.el i x l hx hl).2⟩⟩
theorem RoR.move {β : Type} {L : Lay β} {te e : TypeId} {k : Nat} {v : Value} {xs : List SlV} {ll : List (List β)} {lab2 : Lab} (h : RoR L te e k lab w v xs ll)
  (hs : ∀ g, lab g = .row k ∨ (∃ i, lab g = .el k i) → g < w.heap.size → w1.heap[g]? = w.heap[g]? ∧ lab2 g = lab g) : RoR L te e k lab2 w1 v xs ll :=
 ⟨h.own.same fun g hg => (hs g (.inl (h.la g hg)) (h.own.lt g hg).2).1, fun g hg => (hs g (.inl (h.la g hg)) (h.own.lt g hg).2).2.trans (h.la g hg), h.len,
  fun i x l hx hl => ⟨(h.el i x l hx hl).1.same fun g hg => (hs g (.inr ⟨i, (h.el i x l hx hl).2 g hg⟩) ((h.el i x l hx hl).1.lt g hg).2).1, fun g hg => (hs g (.inr ⟨i, (h.el i x l hx hl).2 g hg⟩) ((h.el i x l hx hl).1.lt g hg).2).2.trans ((h.el i x l hx hl).2 g hg)⟩⟩
theorem DoR.same {v : Value} {gs : List Nat} {xs : List SlV} {ll : List DicV} (h : DoR lab w v gs xs ll)
  (hs : ∀ g, lab g = .row 3 ∨ (∃ i, lab g = .el 3 i) ∨ (∃ i, lab g = .el 4 i) → w1.heap[g]? = w.heap[g]?) : DoR lab w1 v gs xs ll :=
 ⟨h.own.same fun g hg => hs g (.inl (h.la g hg)), h.la, h.len, h.len2, fun i g x d hg hx hd => by
  obtain ⟨h1, h2, h3, h4⟩ := h.el i g x d hg hx hd
  exact ⟨(hs g (.inr (.inl ⟨i, h2⟩))).trans h1, h2, h3.same fun g hg => hs g (.inr (.inr ⟨i, h4 g hg⟩)), h4⟩⟩
theorem DoR.move {v : Value} {gs : List Nat} {xs : List SlV} {ll : List DicV} {lab2 : Lab} (h : DoR lab w v gs xs ll)
  (hs : ∀ g, lab g = .row 3 ∨ (∃ i, lab g = .el 3 i) ∨ (∃ i, lab g = .el 4 i) → g < w.heap.size → w1.heap[g]? = w.heap[g]? ∧ lab2 g = lab g) : DoR lab2 w1 v gs xs ll :=
 ⟨h.own.same fun g hg => (hs g (.inl (h.la g hg)) (h.own.lt g hg).2).1, fun g hg => (hs g (.inl (h.la g hg)) (h.own.lt g hg).2).2.trans (h.la g hg), h.len, h.len2, fun i g x d hg hx hd => by
  obtain ⟨h1, h2, h3, h4⟩ := h.el i g x d hg hx hd
  have h5 := hs g (.inr (.inl ⟨i, h2⟩)) h1.lt
  exact ⟨h5.1.trans h1, h5.2.trans h2, h3.same fun g hg => (hs g (.inr (.inr ⟨i, h4 g hg⟩)) (h3.lt g hg).2).1, fun g hg => (hs g (.inr (.inr ⟨i, h4 g hg⟩)) (h3.lt g hg).2).2.trans (h4 g hg)⟩⟩
theorem St.same {b : Nat} {H : StH} {S : StoV} (h : St lab w b H S) (hs : ∀ g, lab g ≠ .no → w1.heap[g]? = w.heap[g]?) : St lab w1 b H S := by
 refine ⟨h.lb, (hs b (by rw [h.lb]; nofun)).trans h.blk, h.tx.same fun g hg => hs g ?_, h.li.same fun g hg => hs g ?_, h.di.same fun g hg => hs g ?_,
  h.oc.same fun g hg => hs g (by rw [h.lc g hg]; nofun), h.lc, h.ox.same fun g hg => hs g (by rw [h.lm g hg]; nofun), h.lm⟩
 ·
  rcases hg with e | ⟨i, e⟩ <;> rw [e] <;> nofun
 ·
  rcases hg with e | ⟨i, e⟩ <;> rw [e] <;> nofun
 ·
  rcases hg with e | ⟨i, e⟩ | ⟨i, e⟩ <;> rw [e] <;> nofun
theorem Sto.same {b : Nat} {F : Nat → Prop} {S : StoV} (h : Sto w b F S) (hs : ∀ g, F g → g < w.heap.size → w1.heap[g]? = w.heap[g]?) : Sto w1 b F S := by
 obtain ⟨lab, H, hF, hl, hS⟩ := h
 refine ⟨lab, H, hF, fun g hg => ?_, hS.same fun g hg => hs g ((hF g).2 hg) (hl g hg)⟩
 have h1 := hl g hg
 have h2 := hs g ((hF g).2 hg) h1
 rcases Nat.lt_or_ge g w1.heap.size with h3 | h3
 ·
  exact h3
 ·
  rw [Array.getElem?_eq_none h3, Array.getElem?_eq_getElem h1] at h2; cases h2
theorem Sto.below {b : Nat} {F : Nat → Prop} {S : StoV} (h : Sto w b F S) (hb : Below w.heap.size w w1) : Sto w1 b F S := h.same fun g _ hl => hb.block g hl
theorem Sto.drew {b : Nat} {F : Nat → Prop} {S : StoV} (h : Sto w b F S) (d : Drew w w1) : Sto w1 b F S := h.below (d.below (Below.refl _ _))
theorem Sto.lt {b : Nat} {F : Nat → Prop} {S : StoV} (h : Sto w b F S) {g : Nat} (hg : F g) : g < w.heap.size := by
 obtain ⟨lab, H, hF, hl, hS⟩ := h
 exact hl g ((hF g).1 hg)
theorem Sto.at {b : Nat} {F : Nat → Prop} {S : StoV} (h : Sto w b F S) : F b ∧ b < w.heap.size := by
 obtain ⟨lab, H, hF, hl, hS⟩ := h
 have : lab b ≠ .no := by rw [hS.lb]; nofun
 exact ⟨(hF b).2 this, hl b this⟩
end
/-- .. all of it below B -/
structure StL (B : Nat) (lab : Lab) (w : World) (b : Nat) (H : StH) (S : StoV) : Prop where
 lt : ∀ g, lab g ≠ .no → g < B
 inn : ∀ g, lab g ≠ .no → g < w.heap.size
 st : St lab w b H S
structure StoL (B : Nat) (F : Nat → Prop) (w : World) (b : Nat) (S : StoV) : Prop where
 lt : ∀ g, F g → g < B
 st : Sto w b F S
theorem size_of {w w1 : World} {g : Nat} (h : g < w.heap.size) (e : w1.heap[g]? = w.heap[g]?) : g < w1.heap.size := by
 rcases Nat.lt_or_ge g w1.heap.size with h3 | h3
 ·
  exact h3
 ·
  rw [Array.getElem?_eq_none h3, Array.getElem?_eq_getElem h] at e; cases e
theorem StL.same {B : Nat} {lab : Lab} {w w1 : World} {b : Nat} {H : StH} {S : StoV} (h : StL B lab w b H S) (hs : ∀ g, g < B ∧ lab g ≠ .no → g < w.heap.size → w1.heap[g]? = w.heap[g]?) : StL B lab w1 b H S :=
 ⟨h.lt, fun g hg => size_of (h.inn g hg) (hs g ⟨h.lt g hg, hg⟩ (h.inn g hg)), h.st.same fun g hg => hs g ⟨h.lt g hg, hg⟩ (h.inn g hg)⟩
theorem StoL.same {B : Nat} {F : Nat → Prop} {w w1 : World} {b : Nat} {S : StoV} (h : StoL B F w b S) (hs : ∀ g, g < B ∧ F g → g < w.heap.size → w1.heap[g]? = w.heap[g]?) : StoL B F w1 b S :=
 ⟨h.lt, h.st.same fun g hg hl => hs g ⟨h.lt g hg, hg⟩ hl⟩
theorem Sto.low {w : World} {b : Nat} {F : Nat → Prop} {S : StoV} (h : Sto w b F S) : StoL w.heap.size F w b S := ⟨fun _ hg => h.lt hg, h⟩
/-- what a call on the store may turn: its own blocks; these are old ones of it, or new -/
structure Chg (F F1 : Nat → Prop) (w w1 : World) : Prop where
 os : w1.os = w.os
 tape : w1.tape = w.tape
 output : w1.output = w.output
 size : w.heap.size ≤ w1.heap.size
 block : ∀ k, k < w.heap.size → ¬ F k → w1.heap[k]? = w.heap[k]?
 new : ∀ g, F1 g → F g ∨ w.heap.size ≤ g
theorem Chg.refl (F : Nat → Prop) (w : World) : Chg F F w w := ⟨rfl, rfl, rfl, Nat.le_refl _, fun _ _ _ => rfl, fun _ h => .inl h⟩
theorem Chg.of_below {F : Nat → Prop} {w w1 : World} (h : Below w.heap.size w w1) : Chg F F w w1 := ⟨h.os, h.tape, h.output, h.size, fun k hk _ => h.block k hk, fun _ h => .inl h⟩
theorem Chg.trans {F F1 F2 : Nat → Prop} {a b c : World} (h : Chg F F1 a b) (k : Chg F1 F2 b c) : Chg F F2 a c :=
 ⟨k.os.trans h.os, k.tape.trans h.tape, k.output.trans h.output, Nat.le_trans h.size k.size,
  fun i hi hn => (k.block i (Nat.lt_of_lt_of_le hi h.size) fun hf => by rcases h.new i hf with h1 | h1 <;> first | exact hn h1 | omega).trans (h.block i hi hn),
  fun g hg => by
   rcases k.new g hg with h1 | h1
   ·
    exact h.new g h1
   ·
    exact .inr (Nat.le_trans h.size h1)⟩
theorem Chg.below {F F1 : Nat → Prop} {w w1 : World} {B : Nat} (h : Chg F F1 w w1) (hB : B ≤ w.heap.size) (hF : ∀ g, F g → B ≤ g) : Below B w w1 :=
 ⟨h.os, h.tape, h.output, h.size, fun k hk => h.block k (Nat.lt_of_lt_of_le hk hB) fun hf => by have := hF k hf; omega⟩
theorem Chg.of_keep {F F1 : Nat → Prop} {S : List Nat} {w w1 : World} (h : KeepB w.heap.size S w w1) (hS : ∀ g ∈ S, F g ∨ w.heap.size ≤ g) (hn : ∀ g, F1 g → F g ∨ w.heap.size ≤ g) : Chg F F1 w w1 :=
 ⟨h.os, h.tape, h.output, h.size, fun k hk hf => h.block k hk fun hm => by rcases hS k hm with h1 | h1 <;> first | exact hf h1 | omega, hn⟩
theorem Chg.drew {F F1 : Nat → Prop} {w w1 w2 : World} (h : Chg F F1 w w1) (d : Drew w1 w2) : Chg F F1 w w2 := by obtain ⟨m, rfl⟩ := d; exact ⟨h.os, h.tape, h.output, h.size, h.block, h.new⟩
theorem Chg.low {F F1 : Nat → Prop} {w w1 w2 : World} (h : Chg F F1 w w1) (hb : Below w1.heap.size w1 w2) : Chg F F1 w w2 := h.trans (.of_below hb)
theorem Chg.upd {F F1 : Nat → Prop} {w w1 w2 : World} {c : Nat} (h : Chg F F1 w w1) (hu : Upd c w1 w2) (hc : w.heap.size ≤ c) : Chg F F1 w w2 :=
 ⟨hu.os.trans h.os, hu.tape.trans h.tape, hu.output.trans h.output, Nat.le_trans h.size hu.size, fun k hk hn => (hu.other k oO).trans (h.block k hk hn), h.new⟩
theorem Chg.grow {F F1 : Nat → Prop} {w w1 : World} (h : Chg F F w w1) (hn : ∀ g, F1 g → F g ∨ w.heap.size ≤ g) : Chg F F1 w w1 := ⟨h.os, h.tape, h.output, h.size, h.block, hn⟩
theorem Chg.grown {F F1 : Nat → Prop} {w w1 w2 : World} {o : Option Nat} (h : Chg F F1 w w1) (hg : w1.grownBy w2 o) (ho : ∀ g, o = some g → w.heap.size ≤ g) : Chg F F1 w w2 :=
 ⟨hg.os.trans h.os, hg.tape.trans h.tape, hg.output.trans h.output, Nat.le_trans h.size hg.size, fun k hk hn => (hg.block k (Nat.lt_of_lt_of_le hk h.size) fun e => by have := ho k e.symm; omega).trans (h.block k hk hn), h.new⟩
theorem Chg.nf {F F1 : Nat → Prop} {w w1 : World} (h : Chg F F1 w w1) {c : Nat} (hn : ¬ F c) (hl : c < w.heap.size) : ¬ F1 c := fun hc => (h.new c hc).elim hn (fun hg => by omega)
theorem Chg.open {α : (Nat → Prop) → Prop} {F : Nat → Prop} {w w1 : World} (h : ∃ F1, α F1 ∧ Chg F F1 w w1) : ∃ F1, α F1 ∧ Chg F F1 w w1 ∧ True := by
 obtain ⟨F1, h1, h2⟩ := h; exact ⟨F1, h1, h2, trivial⟩
theorem Blk.chg {F F1 : Nat → Prop} {w w1 : World} {c : Nat} {cs : Array Value} {t : TypeId} (h : Blk w c cs t) (hC : Chg F F1 w w1) (hn : ¬ F c) : Blk w1 c cs t := (hC.block c h.lt hn).trans h
theorem RowM.chg {α : Type} {L : Lay α} {F F1 : Nat → Prop} {w w1 : World} {p : Option Addr} {l : List α} (h : RowM L w p l) (hC : Chg F F1 w w1) (hn : 0 < l.length → ¬ F (pA p).block) : RowM L w1 p l := h.same fun h0 => hC.block _ (h.lt h0) (hn h0)
theorem RowAt.chg {α : Type} {V : α → Value} {F F1 : Nat → Prop} {w w1 : World} {p : Option Addr} {l : List α} (h : RowAt V w p l) (hC : Chg F F1 w w1) (hn : 0 < l.length → ¬ F (pA p).block) : RowAt V w1 p l :=
 ⟨h.isp, fun j hj => by rw [World.cell?_of_block (w := w) (by rw [add_block]; exact hC.block _ (h.lt oO) (hn oO))]; exact h.cells j hj⟩
theorem BytesAt.chg {F F1 : Nat → Prop} {w w1 : World} {p : Option Addr} {l : List UInt8} (h : BytesAt w p l) (hC : Chg F F1 w w1) (hn : 0 < l.length → ¬ F (pA p).block) : BytesAt w1 p l :=
 ⟨h.isp, fun j hj => by rw [World.cell?_of_block (w := w) (by rw [add_block]; exact hC.block _ (h.lt oO) (hn oO))]; exact h.cells j hj⟩
theorem OwnM.chg {α : Type} {L : Lay α} {e : TypeId} {B : Nat} {F F1 : Nat → Prop} {w w1 : World} {v : Value} {l : List α} (h : OwnM L e B w v l) (hC : Chg F F1 w w1) (hn : ∀ g, v.ownBlock = some g → ¬ F g) : OwnM L e B w1 v l := h.same fun g hg => hC.block g (h.lt g hg).2 (hn g hg)
end
section
theorem get_app {α : Type} {l : List α} {x y : α} {i : Nat} (h : (l ++ [x])[i]? = some y) : (i < l.length ∧ l[i]? = some y) ∨ (i = l.length ∧ x = y) := by
  rcases Nat.lt_or_ge i l.length with hi | hi
  · rw [List.getElem?_append_left hi] at h; exact .inl ⟨hi, h⟩
  · rw [List.getElem?_append_right hi] at h
    rcases Nat.lt_or_ge 0 (i - l.length) with h0 | h0
    · rw [List.getElem?_eq_none (by simp only [List.length_cons, List.length_nil]; omega)] at h; cases h
    · have e : i = l.length := by omega
      subst e
      simp only [Nat.sub_self, List.getElem?_cons_zero, Option.some.injEq] at h
      exact .inr ⟨rfl, h⟩
/-- a label for new blocks: x's, v's, and the old ones -/
def lab2 (lab : Lab) (n : Nat) (o1 o2 : Option Nat) (t1 t2 : Tag) : Lab := fun g => if o1 = some g then t1 else if o2 = some g then t2 else if g < n then lab g else .no
section
variable {w w1 w3 : World} {lab : Lab} {b : Nat} {H : StH} {S : StoV}
theorem lab2_old {n : Nat} {o1 o2 : Option Nat} {t1 t2 : Tag} {g : Nat} (h1 : ∀ g, o1 = some g → n ≤ g) (h2 : ∀ g, o2 = some g → n ≤ g ∨ lab g = t2) (hg : g < n) : lab2 lab n o1 o2 t1 t2 g = lab g := by
 unfold lab2
 rw [if_neg (fun e => by have := h1 g e; omega), if_pos hg]
 split
 ·
  rename_i e
  rcases h2 g e with h | h
  ·
   omega
  ·
   exact h.symm
 ·
  rfl
theorem lab2_new {n : Nat} {o1 o2 : Option Nat} {t1 t2 : Tag} {g : Nat} (hg : lab2 lab n o1 o2 t1 t2 g ≠ .no) : o1 = some g ∨ o2 = some g ∨ (lab g ≠ .no ∧ g < n) := by
 unfold lab2 at hg
 split at hg
 ·
  exact .inl aS
 ·
  split at hg
  ·
   exact .inr (.inl aS)
  ·
   split at hg
   ·
    exact .inr (.inr ⟨hg, by assumption⟩)
   ·
    exact absurd rfl hg
theorem RoR.add {β : Type} {L : Lay β} {te e : TypeId} {k : Nat} {v v' : Value} {xs : List SlV} {ll : List (List β)} {l2 : Lab} {x : SlV} {l : List β} (h : RoR L te e k lab w v xs ll)
  (hv : OwnM slL te 0 w1 v' (xs ++ [x])) (hx : OwnM L e 0 w1 x.v l) (h1 : labd l2 v' (.row k)) (h2 : labd l2 x.v (.el k ll.length))
  (hs : ∀ g, (∃ i, lab g = .el k i) → g < w.heap.size → w1.heap[g]? = w.heap[g]? ∧ l2 g = lab g) : RoR L te e k l2 w1 v' (xs ++ [x]) (ll ++ [l]) := by
 refine ⟨hv, h1, by simp [h.len], fun i y m hy hm => ?_⟩
 rcases get_app hy with ⟨hi, hy⟩ | ⟨hi, rfl⟩
 ·
  rcases get_app hm with ⟨hi2, hm⟩ | ⟨hi2, rfl⟩
  ·
   obtain ⟨h3, h4⟩ := h.el i y m hy hm
   have h5 : ∀ g, y.v.ownBlock = some g → w1.heap[g]? = w.heap[g]? ∧ l2 g = lab g := fun g hg => hs g ⟨i, h4 g hg⟩ (h3.lt g hg).2
   exact ⟨h3.same fun g hg => (h5 g hg).1, fun g hg => (h5 g hg).2.trans (h4 g hg)⟩
  ·
   have := h.len; omega
 ·
  rcases get_app hm with ⟨hi2, hm⟩ | ⟨hi2, rfl⟩
  ·
   have := h.len; omega
  ·
   exact ⟨hx, by rw [hi2]; exact h2⟩
/-- what one that adds to a row may turn: the store's block and that row -/
def AddK (lab : Lab) (w w3 : World) (k : Nat) (l2 : Lab) : Prop := ∀ g, g < w.heap.size → lab g ≠ .st → lab g ≠ .row k → w3.heap[g]? = w.heap[g]? ∧ l2 g = lab g
theorem St.addK (h : St lab w b H S) {o1 o2 : Option Nat} {t1 : Tag} {k : Nat} {v : Value} (hv : labd lab v (.row k)) (h1 : ∀ g, o1 = some g → w.heap.size ≤ g) (h2 : ∀ g, o2 = some g → v.ownBlock = some g ∨ w.heap.size ≤ g)
  (hK : ∀ g, g < w.heap.size → g ≠ b → v.ownBlock ≠ some g → w3.heap[g]? = w.heap[g]?) : AddK lab w w3 k (lab2 lab w.heap.size o1 o2 t1 (.row k)) ∧ ∀ g, g < w.heap.size → lab2 lab w.heap.size o1 o2 t1 (.row k) g = lab g := by
 have hold : ∀ g, g < w.heap.size → lab2 lab w.heap.size o1 o2 t1 (.row k) g = lab g := fun g hg => lab2_old h1 (fun g hg => (h2 g hg).symm.imp id fun e => hv g e) hg
 exact ⟨fun g hg h3 h4 => ⟨hK g hg (fun e => h3 (by rw [e]; exact h.lb)) fun e => h4 (hv g e), hold g hg⟩, hold⟩
theorem St.addNew {o1 o2 : Option Nat} {t1 t2 : Tag} {v : Value} (hv : labd lab v t2) (ht : t2 ≠ .no) (hlt : ∀ g, lab g ≠ .no → g < w.heap.size) (h1 : ∀ g, o1 = some g → w.heap.size ≤ g ∧ g < w3.heap.size) (h2 : ∀ g, o2 = some g → (v.ownBlock = some g ∨ w.heap.size ≤ g) ∧ g < w3.heap.size) (hsz : w.heap.size ≤ w3.heap.size) :
  (∀ g, lab2 lab w.heap.size o1 o2 t1 t2 g ≠ .no → g < w3.heap.size) ∧ ∀ g, lab2 lab w.heap.size o1 o2 t1 t2 g ≠ .no → lab g ≠ .no ∨ w.heap.size ≤ g := by
 refine ⟨fun g hg => ?_, fun g hg => ?_⟩
 ·
  rcases lab2_new hg with h5 | h5 | ⟨h5, h6⟩
  ·
   exact (h1 g h5).2
  ·
   exact (h2 g h5).2
  ·
   omega
 ·
  rcases lab2_new hg with h5 | h5 | ⟨h5, h6⟩
  ·
   exact .inr (h1 g h5).1
  ·
   exact (h2 g h5).1.imp (fun e => by rw [hv g e]; exact ht) id
  ·
   exact .inl h5
/-- a text more -/
theorem St.addText (h : St lab w b H S) (hlt : ∀ g, lab g ≠ .no → g < w.heap.size) {v' : Value} {x : SlV} {l : List UInt8} {free' : Int}
    (hK : ∀ g, g < w.heap.size → g ≠ b → H.vt.ownBlock ≠ some g → w3.heap[g]? = w.heap[g]?) (hsz : w.heap.size ≤ w3.heap.size)
    (hb : Blk w3 b #[.int .i64 free', v', H.vl, H.vd, H.vc, H.vm] 65) (hv : OwnM slL 35 0 w3 v' (H.ts ++ [x])) (hf : ∀ g, v'.ownBlock = some g → H.vt.ownBlock = some g ∨ w.heap.size ≤ g)
    (hx : OwnM byL 5 w.heap.size w3 x.v l) (hne : ∀ g, x.v.ownBlock = some g → v'.ownBlock ≠ some g) :
    ∃ lab', St lab' w3 b { H with vt := v', ts := H.ts ++ [x] } { S with free := free', texts := S.texts ++ [l] } ∧ (∀ g, lab' g ≠ .no → g < w3.heap.size) ∧ ∀ g, lab' g ≠ .no → lab g ≠ .no ∨ w.heap.size ≤ g := by
  obtain ⟨hA, hold⟩ := h.addK (t1 := .el 1 S.texts.length) h.tx.la (fun g hg => (hx.lt g hg).1) hf hK
  refine ⟨_, ⟨(hold b (hlt b (by rw [h.lb]; nofun))).trans h.lb, hb, ?_, ?_, ?_, ?_, ?_, ?_, ?_⟩, St.addNew h.tx.la (by nofun) hlt (fun g hg => hx.lt g hg) (fun g hg => ⟨hf g hg, (hv.lt g hg).2⟩) hsz⟩
  · refine h.tx.add hv (hx.base fun _ _ => Nat.zero_le _) (fun g hg => ?_) (fun g hg => ?_) fun g ⟨i, hi⟩ hg => hA g hg (by rw [hi]; nofun) (by rw [hi]; nofun)
    · unfold lab2; rw [if_neg (fun e => hne g e hg), if_pos hg]
    · unfold lab2; rw [if_pos hg]
  · refine h.li.move fun g hg hl => hA g hl ?_ ?_ <;> rcases hg with e | ⟨i, e⟩ <;> rw [e] <;> nofun
  · refine h.di.move fun g hg hl => hA g hl ?_ ?_ <;> rcases hg with e | ⟨i, e⟩ | ⟨i, e⟩ <;> rw [e] <;> nofun
  · exact h.oc.same fun g hg => (hA g (h.oc.lt g hg).2 (by rw [h.lc g hg]; nofun) (by rw [h.lc g hg]; nofun)).1
  · exact fun g hg => (hold g (h.oc.lt g hg).2).trans (h.lc g hg)
  · exact h.ox.same fun g hg => (hA g (h.ox.lt g hg).2 (by rw [h.lm g hg]; nofun) (by rw [h.lm g hg]; nofun)).1
  · exact fun g hg => (hold g (h.ox.lt g hg).2).trans (h.lm g hg)
/-- an array more -/
theorem St.addList (h : St lab w b H S) (hlt : ∀ g, lab g ≠ .no → g < w.heap.size) {v' : Value} {x : SlV} {l : List ObjV} {free' : Int}
    (hK : ∀ g, g < w.heap.size → g ≠ b → H.vl.ownBlock ≠ some g → w3.heap[g]? = w.heap[g]?) (hsz : w.heap.size ≤ w3.heap.size)
    (hb : Blk w3 b #[.int .i64 free', H.vt, v', H.vd, H.vc, H.vm] 65) (hv : OwnM slL 30 0 w3 v' (H.ls ++ [x])) (hf : ∀ g, v'.ownBlock = some g → H.vl.ownBlock = some g ∨ w.heap.size ≤ g)
    (hx : OwnM objL 27 w.heap.size w3 x.v l) (hne : ∀ g, x.v.ownBlock = some g → v'.ownBlock ≠ some g) :
    ∃ lab', St lab' w3 b { H with vl := v', ls := H.ls ++ [x] } { S with free := free', lists := S.lists ++ [l] } ∧ (∀ g, lab' g ≠ .no → g < w3.heap.size) ∧ ∀ g, lab' g ≠ .no → lab g ≠ .no ∨ w.heap.size ≤ g := by
  obtain ⟨hA, hold⟩ := h.addK (t1 := .el 2 S.lists.length) h.li.la (fun g hg => (hx.lt g hg).1) hf hK
  refine ⟨_, ⟨(hold b (hlt b (by rw [h.lb]; nofun))).trans h.lb, hb, ?_, ?_, ?_, ?_, ?_, ?_, ?_⟩, St.addNew h.li.la (by nofun) hlt (fun g hg => hx.lt g hg) (fun g hg => ⟨hf g hg, (hv.lt g hg).2⟩) hsz⟩
  · refine h.tx.move fun g hg hl => hA g hl ?_ ?_ <;> rcases hg with e | ⟨i, e⟩ <;> rw [e] <;> nofun
  · refine h.li.add hv (hx.base fun _ _ => Nat.zero_le _) (fun g hg => ?_) (fun g hg => ?_) fun g ⟨i, hi⟩ hg => hA g hg (by rw [hi]; nofun) (by rw [hi]; nofun)
    · unfold lab2; rw [if_neg (fun e => hne g e hg), if_pos hg]
    · unfold lab2; rw [if_pos hg]
  · refine h.di.move fun g hg hl => hA g hl ?_ ?_ <;> rcases hg with e | ⟨i, e⟩ | ⟨i, e⟩ <;> rw [e] <;> nofun
  · exact h.oc.same fun g hg => (hA g (h.oc.lt g hg).2 (by rw [h.lc g hg]; nofun) (by rw [h.lc g hg]; nofun)).1
  · exact fun g hg => (hold g (h.oc.lt g hg).2).trans (h.lc g hg)
  · exact h.ox.same fun g hg => (hA g (h.ox.lt g hg).2 (by rw [h.lm g hg]; nofun) (by rw [h.lm g hg]; nofun)).1
  · exact fun g hg => (hold g (h.ox.lt g hg).2).trans (h.lm g hg)
/-- a dictionary more -/
theorem St.addDict (h : St lab w b H S) (hlt : ∀ g, lab g ≠ .no → g < w.heap.size) {v' : Value} {k : Nat} {most access free' : Int}
    (hK : ∀ g, g < w.heap.size → g ≠ b → H.vd.ownBlock ≠ some g → w3.heap[g]? = w.heap[g]?) (hsz : w.heap.size ≤ w3.heap.size)
    (hb : Blk w3 b #[.int .i64 free', H.vt, H.vl, v', H.vc, H.vm] 65) (hv : OwnM ptL 106 0 w3 v' (H.ds ++ [k])) (hf : ∀ g, v'.ownBlock = some g → H.vd.ownBlock = some g ∨ w.heap.size ≤ g)
    (hx : Blk w3 k #[.int .i64 most, .int .i64 access, .slice none 0 0] 109) (hkb : w.heap.size ≤ k) (hne : v'.ownBlock ≠ some k) :
    ∃ lab', St lab' w3 b { H with vd := v', ds := H.ds ++ [k], dp := H.dp ++ [⟨none, 0, 0⟩] } { S with free := free', dicts := S.dicts ++ [⟨most, access, []⟩] } ∧ (∀ g, lab' g ≠ .no → g < w3.heap.size) ∧ ∀ g, lab' g ≠ .no → lab g ≠ .no ∨ w.heap.size ≤ g := by
  have hk1 : ∀ g, some k = some g → w.heap.size ≤ g := fun g e => by cases e; exact hkb
  obtain ⟨hA, hold⟩ := h.addK (t1 := .el 3 S.dicts.length) h.di.la hk1 hf hK
  refine ⟨_, ⟨(hold b (hlt b (by rw [h.lb]; nofun))).trans h.lb, hb, ?_, ?_, ?_, ?_, ?_, ?_, ?_⟩, St.addNew h.di.la (by nofun) hlt (fun g e => by cases e; exact ⟨hkb, hx.lt⟩) (fun g hg => ⟨hf g hg, (hv.lt g hg).2⟩) hsz⟩
  · refine h.tx.move fun g hg hl => hA g hl ?_ ?_ <;> rcases hg with e | ⟨i, e⟩ <;> rw [e] <;> nofun
  · refine h.li.move fun g hg hl => hA g hl ?_ ?_ <;> rcases hg with e | ⟨i, e⟩ <;> rw [e] <;> nofun
  · refine ⟨hv, fun g hg => ?_, by simp [h.di.len], by simp [h.di.len2], fun i g x d hg hx2 hd => ?_⟩
    · unfold lab2; rw [if_neg (fun e => by cases e; exact hne hg), if_pos hg]
    · have hn1 := h.di.len
      have hn2 := h.di.len2
      rcases get_app hd with ⟨hi, hd⟩ | ⟨hi, rfl⟩
      · rcases get_app hg with ⟨hi2, hg⟩ | ⟨hi2, rfl⟩
        · rcases get_app hx2 with ⟨hi3, hx2⟩ | ⟨hi3, rfl⟩
          · obtain ⟨h1, h2, h3, h4⟩ := h.di.el i g x d hg hx2 hd
            have h5 := hA g h1.lt (by rw [h2]; nofun) (by rw [h2]; nofun)
            have h6 : ∀ g, x.v.ownBlock = some g → w3.heap[g]? = w.heap[g]? ∧ _ := fun g hg => hA g (h3.lt g hg).2 (by rw [h4 g hg]; nofun) (by rw [h4 g hg]; nofun)
            exact ⟨h5.1.trans h1, h5.2.trans h2, h3.same fun g hg => (h6 g hg).1, fun g hg => (h6 g hg).2.trans (h4 g hg)⟩
          · omega
        · omega
      · rcases get_app hg with ⟨hi2, hg⟩ | ⟨hi2, rfl⟩
        · omega
        · rcases get_app hx2 with ⟨hi3, hx2⟩ | ⟨hi3, rfl⟩
          · omega
          · refine ⟨hx, ?_, OwnM.nil _ _ _ _, labd.nil _ _⟩
            unfold lab2; rw [if_pos rfl, hi]
  · exact h.oc.same fun g hg => (hA g (h.oc.lt g hg).2 (by rw [h.lc g hg]; nofun) (by rw [h.lc g hg]; nofun)).1
  · exact fun g hg => (hold g (h.oc.lt g hg).2).trans (h.lc g hg)
  · exact h.ox.same fun g hg => (hA g (h.ox.lt g hg).2 (by rw [h.lm g hg]; nofun) (by rw [h.lm g hg]; nofun)).1
  · exact fun g hg => (hold g (h.ox.lt g hg).2).trans (h.lm g hg)
/-- a text is written -/
theorem St.setText (h : St lab w b H S) {i : Nat} {x : SlV} {l l' : List UInt8} (hx : H.ts[i]? = some x) (hl : S.texts[i]? = some l) (ho : Only x.v.ownBlock w w1) (hw : OwnM byL 5 0 w1 x.v l') :
  St lab w1 b H { S with texts := S.texts.set i l' } := by
 obtain ⟨h1, h2⟩ := h.tx.el i x l hx hl
 have hs : ∀ g, lab g ≠ .el 1 i → w1.heap[g]? = w.heap[g]? := fun g hg => ho.block g fun e => hg (h2 g e)
 refine ⟨h.lb, (hs b (by rw [h.lb]; nofun)).trans h.blk, ⟨h.tx.own.same fun g hg => hs g (by rw [h.tx.la g hg]; nofun), h.tx.la, by simp [h.tx.len], fun j y m hy hm => ?_⟩, h.li.same fun g hg => hs g ?_, h.di.same fun g hg => hs g ?_,
  h.oc.same fun g hg => hs g (by rw [h.lc g hg]; nofun), h.lc, h.ox.same fun g hg => hs g (by rw [h.lm g hg]; nofun), h.lm⟩
 ·
  by_cases hij : i = j
  ·
   subst hij
   have hlt : i < S.texts.length := (List.getElem?_eq_some_iff.1 hl).1
   rw [List.getElem?_set_self hlt] at hm
   rw [hx] at hy
   cases hy; cases hm
   exact ⟨hw, h2⟩
  ·
   rw [List.getElem?_set_ne hij] at hm
   obtain ⟨h3, h4⟩ := h.tx.el j y m hy hm
   exact ⟨h3.same fun g hg => hs g (by rw [h4 g hg]; intro e; cases e; exact hij rfl), h4⟩
 ·
  rcases hg with e | ⟨i, e⟩ <;> rw [e] <;> nofun
 ·
  rcases hg with e | ⟨i, e⟩ | ⟨i, e⟩ <;> rw [e] <;> nofun
end
end
section
open Go.RowKit Go.WideShapes Go.ChangeShapes
section
variable {P : Program} {n : Sh} {f : Fr}
theorem run_callV {F : FuncId} (hb : HasBody P F) {ρ : Operand → Value} (hρ : Agr f ρ) {x : Operand} {first cap args : Array Value} (hf : evo f x = some (.func (.func F) first cap)) {xs : List Operand} {vs : List Value} (hx : evs f xs = some vs) (ha : first ++ vs.toArray ++ cap = args)
  {ats : Array TypeId} (d : Option Tmp) (ty : TypeId) (pos : String) (aft : Array Edge) (g : Option (Nat × Bool)) (w : World) :
  (execOp ρ ⟨d, .call ⟨.value x, xs.toArray, ats⟩, ty, pos, aft, g⟩).run P w = .ok (.enter F args) w := by
 obtain ⟨fn, h1, h2, h3⟩ := hb
 have e := evs_map hρ _ _ hx
 have hfn : ρ x = .func (.func F) first cap := hρ _ _ hf
 have hargs : xs.toArray.map ρ = vs.toArray := by simp [e]
 subst ha
 unfold execOp
 simp only [resolve, hargs, hfn]
 simp [Deferred.ofValue, invoke, callFunc, run_program, h1, h2, h3]
/-- a function value is called -/
theorem WL.callv {ops : Array Oper} {Q : Exit → Fr → World → Prop} {w : World} {rest : List Oper} {d ty : Nat} {pos : String} {aft : Array Edge} {F : FuncId} {x : Operand} {first cap args : Array Value} {xs : List Operand} {ats : Array TypeId} {vs : List Value} {α : Sort _}
  {V : α → Value} {S : α → World → Prop} (hb : HasBody P F) (hf : evo f x = some (.func (.func F) first cap)) (hx : evs f xs = some vs) (ha : first ++ vs.toArray ++ cap = args) (hd : Nat.blt d n.n = true)
  (hc : Calls P F args w fun e w' => ∃ t, e = .returned (V t) ∧ S t w') (k : ∀ t w', S t w' → WL P n ops Q rest ((d, V t) :: f) w') :
  WL P n ops Q (⟨some d, .call ⟨.value x, xs.toArray, ats⟩, ty, pos, aft, none⟩ :: rest) f w := by
 unfold WL at *
 intro a ha'
 refine wpList_plain rfl fun K hK => ?_
 unfold Oper.wp
 rw [run_callV hb ha'.agr hf hx ha, Oper.upon_enter]
 refine hc.mono ?_
 rintro e w' ⟨t, rfl, hS⟩
 exact hK _ _ (k t w' hS _ (ha'.put hd _))
theorem WL.cv1 {ops : Array Oper} {Q : Exit → Fr → World → Prop} {w : World} {rest : List Oper} {d ty : Nat} {pos : String} {aft : Array Edge} {F : FuncId} {x : Operand} {first cap args : Array Value} {xs : List Operand} {ats : Array TypeId} {vs : List Value}
  {V : Value} {S : World → Prop} (hb : HasBody P F) (hf : evo f x = some (.func (.func F) first cap)) (hx : evs f xs = some vs) (ha : first ++ vs.toArray ++ cap = args) (hd : Nat.blt d n.n = true)
  (hc : Calls P F args w fun e w' => e = .returned V ∧ S w') (k : ∀ w', S w' → WL P n ops Q rest ((d, V) :: f) w') :
  WL P n ops Q (⟨some d, .call ⟨.value x, xs.toArray, ats⟩, ty, pos, aft, none⟩ :: rest) f w :=
 WL.callv (α := Unit) (V := fun _ => V) (S := fun _ => S) hb hf hx ha hd (hc.mono fun _ _ h => ⟨(), h⟩) (fun _ => k)
theorem Pure.slaF {tx e : TypeId} {x y : Operand} {p : Addr} {m sz : Nat} {i : Int} (hu : P.underlying tx = some (.array m e)) (hs : ∀ w, (sizeOf e).run P w = .ok sz w) (hx : evo f x = some (.pointer (some p)))
  (hi : evo f y = some (.int .i64 i)) (a : Nat) (ei : i = a) (ham : a ≤ m) : Pure P (.slice tx x (some y) none none) f (.slice (some (if m = a then p else p.add (a * sz))) (m - a) (m - a)) := fun ρ hρ d ty pos aft g w => by
 subst ei
 simp [execOp, Instr.sliceAt, Instr.sureAddr, Instr.sliceBounds, run_sliceBound, hρ _ _ hx, hρ _ _ hi, run_underlying hu, hs, ham, Sem.run_bind]
end
end
section
open Go.RowKit Go.WideShapes Go.ChangeShapes
section
variable {P : Program} {n : Sh} {f : Fr}
/-- the address of an element of an array in memory -/
theorem Pure.ixr {tx e : TypeId} {x y : Operand} {p : Addr} {m sz : Nat} {i : Int} {k : IntKind} (hu : P.underlying tx = some (.array m e)) (hs : ∀ w, (sizeOf e).run P w = .ok sz w) (hx : evo f x = some (.pointer (some p)))
  (hi : evo f y = some (.int k i)) (j : Nat) (e' : i = j) (hj : j < m) : Pure P (.indexAddr tx x y) f (.pointer (some (p.add (j * sz)))) := fun ρ hρ d ty pos aft g w => by
 subst e'
 simp [execOp, Instr.indexAt, Instr.sureAddr, hρ _ _ hx, hρ _ _ hi, asIntOf, run_underlying hu, hs, hj]
theorem Pure.ixr1 {tx e : TypeId} {x y : Operand} {p : Addr} {m : Nat} {i : Int} {k : IntKind} (hu : P.underlying tx = some (.array m e)) (hs : ∀ w, (sizeOf e).run P w = .ok 1 w) (hx : evo f x = some (.pointer (some p)))
  (hi : evo f y = some (.int k i)) (j : Nat) (e' : i = j) (hj : j < m) : Pure P (.indexAddr tx x y) f (.pointer (some (p.add j))) := by
 have h := Pure.ixr (P := P) (f := f) hu hs hx hi j e' hj
 rwa [Nat.mul_one] at h
end
end
section
open Go.RowKit Go.WideShapes Go.ChangeShapes
def WH (P : Program) (n : Sh) (ops : Array Oper) (Q : Exit → Fr → World → Prop) (S : World → Prop) (fuel : Nat) (listed : Array Bool) (f : Fr) (w : World) : Prop := ∀ a, Rep n f a → wpAnyH P .any ops (lift n Q) S fuel listed a w
section
variable {P : Program} {n : Sh} {f : Fr} {ops : Array Oper} {Q : Exit → Fr → World → Prop} {w : World} {fuel : Nat} {listed : Array Bool} {S : World → Prop}
theorem W.regH {id : Nat} {l : List Oper} (N : Nat) (hN : l.length = N) (hm : P.follows .mixedOrders = true) (S : World → Prop) (h : ∀ w1, Drew w w1 → WH P n l.toArray Q S N (Array.replicate N false) f w1) : W P n (.region id l.toArray true) Q f w := by
 unfold W
 exact fun a ha => wp_region_held (S := S) hm (by
  subst hN
  have := h (w.drewN 1) ⟨1, rfl⟩ a ha
  rw [show l.toArray.size = l.length by simp]
  exact this)
/-- an operation that reads what stands is taken first -/
theorem WH.tk (i : Nat) {d ty : Nat} {pos : String} {aft : Array Edge} {op : Op} {v : Value} (hi : ops[i]? = some ⟨some d, op, ty, pos, aft, none⟩) (hp : ∀ w', S w' → Rd P op f w' v) (hS : S w) (hd : Nat.blt d n.n = true)
  (k : WH P n ops Q S fuel (listed.setIfInBounds i true) ((d, v) :: f) w) (hs : Region.noSelect ops = true := by kernel_rfl) (hf : Region.free .any ops listed i = true := by kernel_rfl)
  (hr : (Region.ready .any ops listed).contains i = true := by kernel_rfl) (hQ : ∀ c f w, Q (.panic c) f w → Q (.panic c) [] w := by first | exact fun c f w h => pn_post h | exact fun c f w h => h) : WH P n ops Q S (fuel + 1) listed f w := by
 intro a ha
 refine wpAnyH_take hi hs hf hr ?_ (.inl ⟨by simp [Region.wanted], fun w' hw' => hp w' hw' _ ha.agr _ _ _ _ _⟩) hS (k _ (ha.put hd v))
 rintro c b w' ⟨g, hg, hq⟩
 have hg1 := hg.1
 have hg2 := hg.2.1
 refine ⟨[], ⟨?_, ?_, fun i u hu => by cases hu⟩, hQ c g w' hq⟩
 ·
  exact hg1
 ·
  simpa [Act.put] using hg2
theorem WH.tp (i : Nat) {d ty : Nat} {pos : String} {aft : Array Edge} {op : Op} {v : Value} (hi : ops[i]? = some ⟨some d, op, ty, pos, aft, none⟩) (hp : Pure P op f v) (hS : S w) (hd : Nat.blt d n.n = true)
  (k : WH P n ops Q S fuel (listed.setIfInBounds i true) ((d, v) :: f) w) (hs : Region.noSelect ops = true := by kernel_rfl) (hf : Region.free .any ops listed i = true := by kernel_rfl)
  (hr : (Region.ready .any ops listed).contains i = true := by kernel_rfl) (hQ : ∀ c f w, Q (.panic c) f w → Q (.panic c) [] w := by first | exact fun c f w h => pn_post h | exact fun c f w h => h) : WH P n ops Q S (fuel + 1) listed f w :=
 WH.tk i hi (fun _ _ => hp.rd) hS hd k hs hf hr hQ
theorem yl_of {ops : Array Oper} {a : Act} {j dj : Nat} {t : Bool} (hj : (ops[j]?).bind (·.dst) = some dj) (hval : a.tmps.getD dj undef = .bool t) : yielded ops a.tmps j = some t := by
 unfold yielded
 cases ho : ops[j]? with
 | none => rw [ho] at hj; cases hj
 | some o =>
  rw [ho] at hj
  simp only [Option.bind_some] at hj
  have h1 : a.tmps[dj]? = some (.bool t) := by
   cases h : a.tmps[dj]? with
   | none => rw [Array.getD_eq_getD_getElem?, h] at hval; cases hval
   | some v => rw [Array.getD_eq_getD_getElem?, h] at hval; exact congrArg some hval
  simp [hj, h1]
/-- .. that is guarded, where the guard says yes -/
theorem WH.ty (i : Nat) {d ty j dj : Nat} {b t : Bool} {pos : String} {aft : Array Edge} {op : Op} {v : Value} (hi : ops[i]? = some ⟨some d, op, ty, pos, aft, some (j, b)⟩) (hj : (ops[j]?).bind (·.dst) = some dj) (ht : look f dj = some (.bool t)) (e : t = b)
  (hp : ∀ w', S w' → Rd P op f w' v) (hS : S w) (hd : Nat.blt d n.n = true)
  (k : WH P n ops Q S fuel (listed.setIfInBounds i true) ((d, v) :: f) w) (hs : Region.noSelect ops = true := by kernel_rfl) (hf : Region.free .any ops listed i = true := by kernel_rfl)
  (hr : (Region.ready .any ops listed).contains i = true := by kernel_rfl) (hQ : ∀ c f w, Q (.panic c) f w → Q (.panic c) [] w := by first | exact fun c f w h => pn_post h | exact fun c f w h => h) : WH P n ops Q S (fuel + 1) listed f w := by
 intro a ha
 have hyl := yl_of hj (ha.2.2 _ _ ht)
 refine wpAnyH_take hi hs hf hr ?_ (.inl ⟨by simp [Region.wanted, hyl, e], fun w' hw' => hp w' hw' _ ha.agr _ _ _ _ _⟩) hS (k _ (ha.put hd v))
 rintro c b w' ⟨g, hg, hq⟩
 have hg1 := hg.1
 have hg2 := hg.2.1
 refine ⟨[], ⟨?_, ?_, fun i u hu => by cases hu⟩, hQ c g w' hq⟩
 ·
  exact hg1
 ·
  simpa [Act.put] using hg2
/-- .. where the guard says no: nothing is done -/
theorem WH.tn (i : Nat) {d ty j dj : Nat} {b t : Bool} {pos : String} {aft : Array Edge} {op : Op} (hi : ops[i]? = some ⟨some d, op, ty, pos, aft, some (j, b)⟩) (hj : (ops[j]?).bind (·.dst) = some dj) (ht : look f dj = some (.bool t)) (e : t = !b)
  (hS : S w) (hd : Nat.blt d n.n = true)
  (k : WH P n ops Q S fuel (listed.setIfInBounds i true) ((d, undef) :: f) w) (hs : Region.noSelect ops = true := by kernel_rfl) (hf : Region.free .any ops listed i = true := by kernel_rfl)
  (hr : (Region.ready .any ops listed).contains i = true := by kernel_rfl) (hQ : ∀ c f w, Q (.panic c) f w → Q (.panic c) [] w := by first | exact fun c f w h => pn_post h | exact fun c f w h => h) : WH P n ops Q S (fuel + 1) listed f w := by
 intro a ha
 have hyl := yl_of hj (ha.2.2 _ _ ht)
 refine wpAnyH_take hi hs hf hr ?_ (.inr ⟨by simp only [Region.wanted, hyl, e]; cases b <;> rfl, rfl⟩) hS (k _ (ha.put hd undef))
 rintro c b w' ⟨g, hg, hq⟩
 have hg1 := hg.1
 have hg2 := hg.2.1
 refine ⟨[], ⟨?_, ?_, fun i u hu => by cases hu⟩, hQ c g w' hq⟩
 ·
  exact hg1
 ·
  simpa [Act.put] using hg2
/-- a guard, either way -/
theorem WH.cs {dj : Nat} {t : Bool} (b : Bool) (_ : look f dj = some (.bool t)) (hy : t = b → WH P n ops Q S fuel listed f w) (hn : t = !b → WH P n ops Q S fuel listed f w) : WH P n ops Q S fuel listed f w := by
 by_cases h : t = b
 ·
  exact hy h
 ·
  exact hn (by revert h; cases t <;> cases b <;> decide)
theorem WH.op (j : Nat) {o : Oper} (hi : ops[j]? = some o) (h : WL P n ops (nx (fun f' w' => S w' ∧ WH P n ops Q S fuel (listed.setIfInBounds j true) f' w') Q) [o] f w) (a : Act) (ha : Rep n f a) :
  wpOp P ops (lift n Q) j (fun a' w' => S w' ∧ wpAnyH P .any ops (lift n Q) S fuel (listed.setIfInBounds j true) a' w') a w := by
 unfold WL at h
 have := h a ha
 unfold wpOp
 simp only [hi]
 have conv : ∀ (e : Exit) (a : Act) (w : World), lift n (nx (fun f' w' => S w' ∧ WH P n ops Q S fuel (listed.setIfInBounds j true) f' w') Q) e a w → Exit.then (fun a' w' => S w' ∧ wpAnyH P .any ops (lift n Q) S fuel (listed.setIfInBounds j true) a' w') (lift n Q) e a w := by
  rintro e a w ⟨g, hg, hq⟩
  cases e with
  | normal => exact ⟨hq.1, hq.2 a hg⟩
  | _ => exact ⟨g, hg, hq⟩
 unfold wpList at this
 split
 ·
  next hwt =>
  rw [if_pos hwt] at this
  refine this.imp (fun h => ?_) fun ⟨h1, a', w', h2⟩ => ⟨h1, a', w', conv _ _ _ h2⟩
  have h' : o.wp P a w (fun a' w' => S w' ∧ wpAnyH P .any ops (lift n Q) S fuel (listed.setIfInBounds j true) a' w') (lift n (nx (fun f' w' => S w' ∧ WH P n ops Q S fuel (listed.setIfInBounds j true) f' w') Q)) :=
   Oper.wp_mono (fun a w h => conv .normal a w h) h
  exact upon_post h' fun e a w he h => by
   cases e with
   | normal => exact absurd rfl he
   | _ => exact conv _ a w h
 ·
  next hwt =>
  rw [if_neg hwt] at this
  exact conv .normal _ _ this
/-- the one that comes up now -/
theorem WH.br1 (i : Nat) {o : Oper} (hi : ops[i]? = some o) (h : WL P n ops (nx (fun f' w' => S w' ∧ WH P n ops Q S fuel (listed.setIfInBounds i true) f' w') Q) [o] f w) (hr : Region.ready .any ops listed = [i] := by kernel_rfl) : WH P n ops Q S (fuel + 1) listed f w := by
 intro a ha
 refine wpAnyH_all hr (by simp) fun j hj => ?_
 obtain rfl : j = i := by simpa using hj
 exact WH.op j hi h a ha
/-- two that may come up now -/
theorem WH.br2 (i : Nat) {o : Oper} (hi : ops[i]? = some o) (k : Nat) {o2 : Oper} (hk : ops[k]? = some o2) (h : WL P n ops (nx (fun f' w' => S w' ∧ WH P n ops Q S fuel (listed.setIfInBounds i true) f' w') Q) [o] f w)
    (h2 : WL P n ops (nx (fun f' w' => S w' ∧ WH P n ops Q S fuel (listed.setIfInBounds k true) f' w') Q) [o2] f w) (hr : Region.ready .any ops listed = [i, k] := by kernel_rfl) : WH P n ops Q S (fuel + 1) listed f w := by
  intro a ha
  refine wpAnyH_all hr (by simp) fun j hj => ?_
  rcases List.mem_cons.1 hj with rfl | hj
  · exact WH.op j hi h a ha
  · obtain rfl : j = k := by simpa using hj
    exact WH.op j hk h2 a ha
theorem WH.done (hr : Region.ready .any ops listed = []) (h : Q .normal f w) : WH P n ops Q S fuel listed f w := fun _ ha => wpAnyH_done hr ⟨f, ha, h⟩ fuel
end
attribute [irreducible] WH
end
section
section
variable {P : Program} {n : Sh} {f : Fr}
/-- one cell, at an address that is spelt otherwise -/
theorem WL.stC {ops : Array Oper} {Q : Exit → Fr → World → Prop} {w : World} {rest : List Oper} {ty : Nat} {pos : String} {aft : Array Edge} {t tb : TypeId} {x y : Operand} {p : Addr} {b o : Nat} {cs : Array Value} {v : Value} (new : Array Value)
  (hs : ∀ w, (sizeOf t).run P w = .ok 1 w) (hx : evo f x = some (.pointer (some p))) (hp : p = ⟨b, o, none⟩) (hy : evo f y = some v) (h1 : v.oneCell' = true) (hb : Blk w b cs tb) (ho : o < cs.size) (hn : cs.setIfInBounds o v = new)
  (k : ∀ w1, Blk w1 b new tb → Upd b w w1 → w1.heap.size = w.heap.size → WL P n ops Q rest f w1) : WL P n ops Q (⟨none, .store t x y, ty, pos, aft, none⟩ :: rest) f w := by
 subst hp
 exact WL.st hs hx hy h1 hb ho fun w1 hk hu hsz => k w1 (hn ▸ hk) hu hsz
end
end
section
theorem inf35 : (Tryz.prog.info? 35).map (fun i => (i.zero, i.size, i.bytes)) = some (some (.slice none 0 0), 1, 24) := by kernel_rfl
theorem inf5 : (Tryz.prog.info? 5).map (fun i => (i.zero, i.size, i.bytes)) = some (some (.int .u8 0), 1, 1) := by kernel_rfl
theorem inf30 : (Tryz.prog.info? 30).map (fun i => (i.zero, i.size, i.bytes)) = some (some (.slice none 0 0), 1, 24) := by kernel_rfl
theorem inf106 : (Tryz.prog.info? 106).map (fun i => (i.zero, i.size, i.bytes)) = some (some (.pointer none), 1, 8) := by kernel_rfl
theorem RowM.at1 {w : World} {p : Option Addr} {l : List SlV} (h : RowM slL w p l) : RowAt SlV.v w p l := ⟨h.isp, fun j hj => by have := h.cells j hj 0 dD; simpa [slL] using this⟩
theorem RowM.atP {w : World} {p : Option Addr} {l : List Nat} (h : RowM ptL w p l) : RowAt (fun b => Value.pointer (some ⟨b, 0, none⟩)) w p l := ⟨h.isp, fun j hj => by have := h.cells j hj 0 dD; simpa [ptL] using this⟩
theorem RowM.bytes {w : World} {p : Option Addr} {l : List UInt8} (h : RowM byL w p l) : BytesAt w p l := ⟨h.isp, fun j hj => by have := h.cells j hj 0 dD; simpa [byL] using this⟩
theorem RowM.lit {α : Type} {L : Lay α} {w : World} {b : Nat} {cs : Array Value} {t : TypeId} {l : List α} (h : Blk w b cs t) (e : cs.toList = L.flat l) : RowM L w (some ⟨b, 0, none⟩) l :=
 RowM.of_flat (fun _ => rfl) fun k v hk => by
  show w.cell? ((⟨b, 0, none⟩ : Addr).add k) = _
  rw [add_lit, Nat.zero_add, h.cell, ← Array.getElem?_toList, e, hk]
/-- what is asked of the store's numbers -/
structure SOk (S : StoV) : Prop where
 free0 : 0 ≤ S.free
 sum : (S.texts.length + S.lists.length + S.dicts.length : Int) + S.free ≤ 1048576
 tx : ∀ l ∈ S.texts, l.length ≤ 65535
 li : ∀ l ∈ S.lists, l.length ≤ 65535
 di : ∀ d ∈ S.dicts, (d.pairs.length : Int) ≤ d.most ∧ d.most ≤ 4096 ∧ 0 ≤ d.access ∧ d.access ≤ 3
def withinB (o : ObjV) (n : Int) : Bool := decide (0 ≤ o.frm) && decide (0 ≤ o.len) && decide (o.frm ≤ n) && decide (o.len ≤ n - o.frm)
theorem sto_within (o : ObjV) (n : Int) (w : World) (h0 : 0 ≤ n) (h1 : n ≤ 4611686018427387904) : Calls Tryz.prog 37 #[.agg (objV o).toArray, .int .i64 n] w fun e w' => e = .returned (.bool (withinB o n)) ∧ Below w.heap.size w w' := by
 refine W.enter func37 rfl ntmps37 (Nat.le_of_ble_eq_true rfl) ?_
 have hB0 := Below.refl (w.heap.size) w
 refine W.sr <| WL.box rfl rfl (fun b1 wb1 eb1 hkb1 hub1 hsb1 => ?_)
 have hB2 := Upd.below hB0 (by rw [eb1]; exact hB0.size) hub1
 have hgeb1 : w.heap.size ≤ b1 := by rw [eb1]; exact hB0.size
 refine WL.z rfl rfl ?_
 refine W.sr <| WL.p (.fa underlying27 rfl sizeOf3 dD rfl) rfl <| WL.r (Rd.ld (isAgg3 _) rfl hkb1 rfl) rfl <| WL.p (.geq rfl rfl) rfl <| WL.m rfl rfl <| WL.gd rfl rfl rfl (fun g3 => ?_) (fun g3 => ?_)
 have g3' := dT g3
 refine WL.p (.fa underlying27 rfl sizeOf3 dD rfl) rfl <| WL.gy rfl rfl rfl g3 <| WL.r (Rd.ld (isAgg3 _) rfl hkb1 rfl) rfl <| WL.gy rfl rfl rfl g3 <| WL.p (.geq rfl rfl) rfl <| WL.p (.pkT rfl g3 rfl) rfl <| WL.m rfl rfl <| WL.gd rfl rfl rfl (fun g4 => ?_) (fun g4 => ?_)
 have g4' := dT g4
 refine WL.p (.fa underlying27 rfl sizeOf3 dD rfl) rfl <| WL.gy rfl rfl rfl g4 <| WL.r (Rd.ld (isAgg3 _) rfl hkb1 rfl) rfl <| WL.gy rfl rfl rfl g4 <| WL.m rfl rfl <| WL.gy rfl rfl rfl g4 <| WL.p (.leq rfl rfl) rfl <| WL.p (.pkT rfl g4 rfl) rfl <| WL.m rfl rfl <| WL.gd rfl rfl rfl (fun g5 => ?_) (fun g5 => ?_)
 have g5' := dT g5
 refine WL.p (.fa underlying27 rfl sizeOf3 dD rfl) rfl <| WL.gy rfl rfl rfl g5 <| WL.r (Rd.ld (isAgg3 _) rfl hkb1 rfl) rfl <| WL.gy rfl rfl rfl g5 <| WL.m rfl rfl <| WL.gy rfl rfl rfl g5 <| WL.p (.fa underlying27 rfl sizeOf3 dD rfl) rfl <| WL.gy rfl rfl rfl g5 <| WL.r (Rd.ld (isAgg3 _) rfl hkb1 rfl) rfl <| WL.gy rfl rfl rfl g5 <| WL.p (.sub rfl rfl (i64w oO)) rfl <| WL.gy rfl rfl rfl g5 <| WL.p (.leq rfl rfl) rfl <| WL.p (.pkT rfl g5 rfl) rfl <| WL.z rfl rfl ?_
 refine W.ret (W.ret1 rfl rfl ?_)
 exact ⟨rbE (by unfold withinB; simp_all <;> omega), hB2⟩
 have g5' := dF g5
 refine WL.gn rfl rfl rfl g5 <| WL.gn rfl rfl rfl g5 <| WL.gn rfl rfl rfl g5 <| WL.gn rfl rfl rfl g5 <| WL.gn rfl rfl rfl g5 <| WL.gn rfl rfl rfl g5 <| WL.p (.pkF rfl g5 rfl) rfl <| WL.z rfl rfl ?_
 refine W.ret (W.ret1 rfl rfl ?_)
 exact ⟨rbE (by unfold withinB; simp_all <;> omega), hB2⟩
 have g4' := dF g4
 refine WL.gn rfl rfl rfl g4 <| WL.gn rfl rfl rfl g4 <| WL.gn rfl rfl rfl g4 <| WL.p (.pkF rfl g4 rfl) rfl <| WL.m rfl rfl <| WL.gn rfl rfl rfl rfl <| WL.gn rfl rfl rfl rfl <| WL.gn rfl rfl rfl rfl <| WL.gn rfl rfl rfl rfl <| WL.gn rfl rfl rfl rfl <| WL.gn rfl rfl rfl rfl <| WL.gn rfl rfl rfl rfl <| WL.p (.pkF rfl rfl rfl) rfl <| WL.z rfl rfl ?_
 refine W.ret (W.ret1 rfl rfl ?_)
 exact ⟨rbE (by unfold withinB; simp_all <;> omega), hB2⟩
 have g3' := dF g3
 refine WL.gn rfl rfl rfl g3 <| WL.gn rfl rfl rfl g3 <| WL.p (.pkF rfl g3 rfl) rfl <| WL.m rfl rfl <| WL.gn rfl rfl rfl rfl <| WL.gn rfl rfl rfl rfl <| WL.gn rfl rfl rfl rfl <| WL.gn rfl rfl rfl rfl <| WL.p (.pkF rfl rfl rfl) rfl <| WL.m rfl rfl <| WL.gn rfl rfl rfl rfl <| WL.gn rfl rfl rfl rfl <| WL.gn rfl rfl rfl rfl <| WL.gn rfl rfl rfl rfl <| WL.gn rfl rfl rfl rfl <| WL.gn rfl rfl rfl rfl <| WL.gn rfl rfl rfl rfl <| WL.p (.pkF rfl rfl rfl) rfl <| WL.z rfl rfl ?_
 refine W.ret (W.ret1 rfl rfl ?_)
 exact ⟨rbE (by unfold withinB; simp_all <;> omega), hB2⟩
def validB (S : StoV) (o : ObjV) : Bool :=
 if o.kind = 6 then decide (0 ≤ o.ref) && decide (o.ref < S.texts.length) && withinB o (S.texts.getD o.ref.toNat []).length
 else if o.kind = 7 then decide (0 ≤ o.ref) && decide (o.ref < S.lists.length) && withinB o (S.lists.getD o.ref.toNat []).length
 else if o.kind = 8 then decide (0 ≤ o.ref) && decide (o.ref < S.dicts.length) else true
theorem get_of {α : Type} {l : List α} {i : Nat} (h : i < l.length) : l[i]? = some l[i] := List.getElem?_eq_getElem h
theorem RoR.at {β : Type} {L : Lay β} {te e : TypeId} {k : Nat} {lab : Lab} {w : World} {v : Value} {xs : List SlV} {ll : List (List β)} (h : RoR L te e k lab w v xs ll) (i : Nat) (hi : i < xs.length) (hi2 : i < ll.length) :
  OwnM L e 0 w xs[i].v ll[i] ∧ labd lab xs[i].v (.el k i) := h.el i _ _ (get_of hi) (get_of hi2)
theorem OwnM.slv {β : Type} {L : Lay β} {e : TypeId} {B : Nat} {w : World} {x : SlV} {l : List β} (h : OwnM L e B w x.v l) : x.n = l.length ∧ RowM L w x.p l ∧ l.length ≤ x.c ∧ x.c ≤ maxLen := by
 obtain ⟨p, c, hv, h1, -, h3, -, -, h6, -⟩ := h.row
 simp only [SlV.v, Value.slice.injEq] at hv
 obtain ⟨rfl, e2, rfl⟩ := hv
 exact ⟨e2, h1, h3, h6⟩
theorem RoR.nn {β : Type} {L : Lay β} {te e : TypeId} {k : Nat} {lab : Lab} {w : World} {v : Value} {xs : List SlV} {ll : List (List β)} (h : RoR L te e k lab w v xs ll) : ∀ (i : Nat) (hi : i < xs.length), xs[i].n = (ll.getD i []).length := fun i hi => by
 have h2 : i < ll.length := by rw [← h.len]; exact hi
 rw [(h.at i hi h2).1.slv.1, List.getD_eq_getElem?_getD, get_of h2]; rfl
theorem getD_le {β : Type} {ll : List (List β)} {m : Nat} (h : ∀ l ∈ ll, l.length ≤ m) (i : Nat) : (ll.getD i []).length ≤ m := by
 rw [List.getD_eq_getElem?_getD]
 cases e : ll[i]? with
 | none => exact Nat.zero_le _
 | some l => exact h l (List.mem_of_getElem? e)
/-- the store's block, its slices in the open -/
theorem St.opn {lab : Lab} {w : World} {b : Nat} {H : StH} {S : StoV} (h : St lab w b H S) : ∃ pt ct pl cl pd cd pc cc pm cm,
  Blk w b #[.int .i64 S.free, .slice pt H.ts.length ct, .slice pl H.ls.length cl, .slice pd H.ds.length cd, .slice pc S.changes.length cc, .slice pm S.marks.length cm] 65 ∧
  H.vt = .slice pt H.ts.length ct ∧ H.vl = .slice pl H.ls.length cl ∧ H.vd = .slice pd H.ds.length cd ∧ H.vc = .slice pc S.changes.length cc ∧ H.vm = .slice pm S.marks.length cm ∧ RowM slL w pt H.ts ∧ RowM slL w pl H.ls ∧ RowM ptL w pd H.ds := by
 obtain ⟨pt, ct, e1, r1, -⟩ := h.tx.own.row
 obtain ⟨pl, cl, e2, r2, -⟩ := h.li.own.row
 obtain ⟨pd, cd, e3, r3, -⟩ := h.di.own.row
 obtain ⟨pc, cc, e4, r4, -⟩ := h.oc.row
 obtain ⟨pm, cm, e5, r5, -⟩ := h.ox.row
 exact ⟨pt, ct, pl, cl, pd, cd, pc, cc, pm, cm, by rw [← e1, ← e2, ← e3, ← e4, ← e5]; exact h.blk, e1, e2, e3, e4, e5, r1, r2, r3⟩
set_option maxHeartbeats 1600000 in
theorem sto_Valid (b : Nat) (F : Nat → Prop) (S : StoV) (o : ObjV) (w : World) (h : Sto w b F S) (hok : SOk S) : Calls Tryz.prog 19 #[.pointer (some ⟨b, 0, none⟩), .agg (objV o).toArray] w fun e w' => e = .returned (.bool (validB S o)) ∧ Below w.heap.size w w' := by
 obtain ⟨lab, H, -, -, hS⟩ := h
 obtain ⟨pt, ct, pl, cl, pd, cd, pc, cc, pm, cm, hr, -, -, -, -, -, hrt, hrl, hrd⟩ := hS.opn
 have hrt1 := hrt.at1
 have hrl1 := hrl.at1
 have hnt : H.ts.length = S.texts.length := hS.tx.len
 have hnl : H.ls.length = S.lists.length := hS.li.len
 have hnd : H.ds.length = S.dicts.length := hS.di.len
 have hlt := hS.tx.nn
 have hll := hS.li.nn
 have hlt5 := getD_le hok.tx
 have hll5 := getD_le hok.li
 refine W.enter func19 rfl ntmps19 (Nat.le_of_ble_eq_true rfl) ?_
 have hB0 := Below.refl (w.heap.size) w
 refine W.sr <| WL.box rfl rfl (fun b1 wb1 eb1 hkb1 hub1 hsb1 => ?_)
 have hl3 : b < b1 := by rw [eb1]; exact hr.lt
 have hk2 := hr.upd hub1 (Nat.ne_of_lt hl3)
 have hvl5 := fun h0 => eb1 ▸ hrt1.lt h0
 have hv4 := RowAt.upd hrt1 hub1 (fun h0 => Nat.ne_of_lt (hvl5 h0))
 have hvl7 := fun h0 => eb1 ▸ hrl1.lt h0
 have hv6 := RowAt.upd hrl1 hub1 (fun h0 => Nat.ne_of_lt (hvl7 h0))
 have hB8 := Upd.below hB0 (by rw [eb1]; exact hB0.size) hub1
 have hgeb1 : w.heap.size ≤ b1 := by rw [eb1]; exact hB0.size
 refine WL.z rfl rfl ?_
 refine W.seq <| W.sr <| WL.m rfl rfl <| WL.p (.eqP underlying22 rfl) rfl <| WL.nil <| ?_
 refine W.condF rfl rfl ?_
 refine W.skip <| W.seq <| W.sr <| WL.p (.fa underlying27 rfl sizeOf3 dD rfl) rfl <| WL.r (Rd.ld (isAgg3 _) rfl hkb1 rfl) rfl <| WL.nil <| ?_
 refine W.block <| W.sr <| WL.p (.eql rfl rfl) rfl <| WL.z rfl rfl ?_
 refine W.cond rfl (fun h9 => ?_) (fun h9 => ?_)
 have h9' := dT h9
 refine W.seq <| W.regH 27 rfl mixed (fun w' => Below wb1.heap.size wb1 w') (fun w10 dw10 => ?_)
 have hv13 := hv4.drew dw10
 have hB15 := Drew.below hB8 dw10
 have hS16 : Below wb1.heap.size wb1 w10 := Drew.below (Below.refl _ _) dw10
 refine WH.tp 0 rfl (.fa underlying27 rfl sizeOf3 dD rfl) hS16 rfl ?_
 refine WH.tk 1 rfl (fun w' hw' => Rd.ld (isAgg3 _) rfl (hkb1.below hw' hkb1.lt) rfl) hS16 rfl ?_
 refine WH.tp 2 rfl (.geq rfl rfl) hS16 rfl ?_
 refine WH.tp 3 rfl (.mv rfl) hS16 rfl ?_
 refine WH.cs (dj := 14) true rfl (fun g17 => ?_) (fun g17 => ?_)
 have g17' := dT g17
 refine WH.ty 4 rfl rfl rfl g17 (fun _ _ => Pure.rd (.fa underlying27 rfl sizeOf3 dD rfl)) hS16 rfl ?_
 refine WH.ty 5 rfl rfl rfl g17 (fun w' hw' => Rd.ld (isAgg3 _) rfl (hkb1.below hw' hkb1.lt) rfl) hS16 rfl ?_
 refine WH.ty 6 rfl rfl rfl g17 (fun _ _ => Pure.rd (.mv rfl)) hS16 rfl ?_
 refine WH.ty 7 rfl rfl rfl g17 (fun _ _ => Pure.rd (.nck rfl)) hS16 rfl ?_
 refine WH.ty 8 rfl rfl rfl g17 (fun _ _ => Pure.rd (.fa underlying65 rfl sizeOf59 dD rfl)) hS16 rfl ?_
 refine WH.ty 9 rfl rfl rfl g17 (fun w' hw' => Rd.ld (isAgg59 _) rfl (hk2.below hw' hk2.lt) rfl) hS16 rfl ?_
 refine WH.ty 10 rfl rfl rfl g17 (fun _ _ => Pure.rd (.lenS underlying59 rfl)) hS16 rfl ?_
 refine WH.ty 11 rfl rfl rfl g17 (fun _ _ => Pure.rd (.lss rfl rfl)) hS16 rfl ?_
 refine WH.tp 12 rfl (.pkT rfl g17 rfl) hS16 rfl ?_
 refine WH.tp 13 rfl (.mv rfl) hS16 rfl ?_
 refine WH.cs (dj := 24) true rfl (fun g18 => ?_) (fun g18 => ?_)
 have g18' := dT g18
 refine WH.ty 14 rfl rfl rfl g18 (fun w' hw' => Rd.ldA rfl (hkb1.below hw' hkb1.lt) underlying27 rfl isz27) hS16 rfl ?_
 refine WH.ty 15 rfl rfl rfl g18 (fun _ _ => Pure.rd (.mv rfl)) hS16 rfl ?_
 refine WH.ty 16 rfl rfl rfl g18 (fun _ _ => Pure.rd (.nck rfl)) hS16 rfl ?_
 refine WH.ty 17 rfl rfl rfl g18 (fun _ _ => Pure.rd (.fa underlying65 rfl sizeOf59 dD rfl)) hS16 rfl ?_
 refine WH.ty 18 rfl rfl rfl g18 (fun w' hw' => Rd.ld (isAgg59 _) rfl (hk2.below hw' hk2.lt) rfl) hS16 rfl ?_
 refine WH.ty 19 rfl rfl rfl g18 (fun _ _ => Pure.rd (.fa underlying27 rfl sizeOf3 dD rfl)) hS16 rfl ?_
 refine WH.ty 20 rfl rfl rfl g18 (fun w' hw' => Rd.ld (isAgg3 _) rfl (hkb1.below hw' hkb1.lt) rfl) hS16 rfl ?_
 refine WH.ty 21 rfl rfl rfl g18 (fun _ _ => Pure.rd (.ixb underlying59 sizeOf35 rfl rfl (hv13.isp oO) (o.ref.toNat) oO oO)) hS16 rfl ?_
 refine WH.ty 22 rfl rfl rfl g18 (fun w' hw' => Rd.ldc (isAgg35 _) rfl ((hv4.below hw' (fun h0 => hv4.lt h0)).cells (o.ref.toNat) oO)) hS16 rfl ?_
 refine WH.ty 23 rfl rfl rfl g18 (fun _ _ => Pure.rd (.iis (((S.texts.getD o.ref.toNat []).length : Int)) (.lenS underlying35 rfl) (by rw [hlt]))) hS16 rfl ?_
 refine WH.br1 24 rfl ?_
 refine WL.gy rfl rfl rfl g18 <| WL.c1 hb37 rfl rfl ((sto_within o _ _ oO (by have := hlt5 o.ref.toNat; omega))) (fun w19 hw19 => ?_)
 have hS20 := Below.trans hS16 (Below.mono hw19 hS16.size)
 have hB25 := btr hB15 hw19
 refine WL.nil <| ?_
 refine ⟨hS20, ?_⟩
 refine WH.tp 25 rfl (.pkT rfl g18 rfl) hS20 rfl ?_
 refine WH.tp 26 rfl (.as rfl) hS20 rfl ?_
 refine WH.done kR ?_
 refine W.ret (W.ret1 rfl rfl ?_)
 exact ⟨rbE (by unfold validB; simp_all <;> first | omega | (intros; omega)), hB25⟩
 have g18' := dF g18
 refine WH.tn 14 rfl rfl rfl g18 hS16 rfl ?_
 refine WH.tn 15 rfl rfl rfl g18 hS16 rfl ?_
 refine WH.tn 16 rfl rfl rfl g18 hS16 rfl ?_
 refine WH.tn 17 rfl rfl rfl g18 hS16 rfl ?_
 refine WH.tn 18 rfl rfl rfl g18 hS16 rfl ?_
 refine WH.tn 19 rfl rfl rfl g18 hS16 rfl ?_
 refine WH.tn 20 rfl rfl rfl g18 hS16 rfl ?_
 refine WH.tn 21 rfl rfl rfl g18 hS16 rfl ?_
 refine WH.tn 22 rfl rfl rfl g18 hS16 rfl ?_
 refine WH.tn 23 rfl rfl rfl g18 hS16 rfl ?_
 refine WH.tn 24 rfl rfl rfl g18 hS16 rfl ?_
 refine WH.tp 25 rfl (.pkF rfl g18 rfl) hS16 rfl ?_
 refine WH.tp 26 rfl (.as rfl) hS16 rfl ?_
 refine WH.done kR ?_
 refine W.ret (W.ret1 rfl rfl ?_)
 exact ⟨rbE (by unfold validB; simp_all <;> first | omega | (intros; omega)), hB15⟩
 have g17' := dF g17
 refine WH.tn 4 rfl rfl rfl g17 hS16 rfl ?_
 refine WH.tn 5 rfl rfl rfl g17 hS16 rfl ?_
 refine WH.tn 6 rfl rfl rfl g17 hS16 rfl ?_
 refine WH.tn 7 rfl rfl rfl g17 hS16 rfl ?_
 refine WH.tn 8 rfl rfl rfl g17 hS16 rfl ?_
 refine WH.tn 9 rfl rfl rfl g17 hS16 rfl ?_
 refine WH.tn 10 rfl rfl rfl g17 hS16 rfl ?_
 refine WH.tn 11 rfl rfl rfl g17 hS16 rfl ?_
 refine WH.tp 12 rfl (.pkF rfl g17 rfl) hS16 rfl ?_
 refine WH.tp 13 rfl (.mv rfl) hS16 rfl ?_
 refine WH.tn 14 rfl rfl rfl rfl hS16 rfl ?_
 refine WH.tn 15 rfl rfl rfl rfl hS16 rfl ?_
 refine WH.tn 16 rfl rfl rfl rfl hS16 rfl ?_
 refine WH.tn 17 rfl rfl rfl rfl hS16 rfl ?_
 refine WH.tn 18 rfl rfl rfl rfl hS16 rfl ?_
 refine WH.tn 19 rfl rfl rfl rfl hS16 rfl ?_
 refine WH.tn 20 rfl rfl rfl rfl hS16 rfl ?_
 refine WH.tn 21 rfl rfl rfl rfl hS16 rfl ?_
 refine WH.tn 22 rfl rfl rfl rfl hS16 rfl ?_
 refine WH.tn 23 rfl rfl rfl rfl hS16 rfl ?_
 refine WH.tn 24 rfl rfl rfl rfl hS16 rfl ?_
 refine WH.tp 25 rfl (.pkF rfl rfl rfl) hS16 rfl ?_
 refine WH.tp 26 rfl (.as rfl) hS16 rfl ?_
 refine WH.done kR ?_
 refine W.ret (W.ret1 rfl rfl ?_)
 exact ⟨rbE (by unfold validB; simp_all <;> first | omega | (intros; omega)), hB15⟩
 have h9' := dF h9
 refine W.sr <| WL.p (.eql rfl rfl) rfl <| WL.z rfl rfl ?_
 refine W.cond rfl (fun h26 => ?_) (fun h26 => ?_)
 have h26' := dT h26
 refine W.seq <| W.regH 27 rfl mixed (fun w' => Below wb1.heap.size wb1 w') (fun w27 dw27 => ?_)
 have hv31 := hv6.drew dw27
 have hB32 := Drew.below hB8 dw27
 have hS33 : Below wb1.heap.size wb1 w27 := Drew.below (Below.refl _ _) dw27
 refine WH.tp 0 rfl (.fa underlying27 rfl sizeOf3 dD rfl) hS33 rfl ?_
 refine WH.tk 1 rfl (fun w' hw' => Rd.ld (isAgg3 _) rfl (hkb1.below hw' hkb1.lt) rfl) hS33 rfl ?_
 refine WH.tp 2 rfl (.geq rfl rfl) hS33 rfl ?_
 refine WH.tp 3 rfl (.mv rfl) hS33 rfl ?_
 refine WH.cs (dj := 42) true rfl (fun g34 => ?_) (fun g34 => ?_)
 have g34' := dT g34
 refine WH.ty 4 rfl rfl rfl g34 (fun _ _ => Pure.rd (.fa underlying27 rfl sizeOf3 dD rfl)) hS33 rfl ?_
 refine WH.ty 5 rfl rfl rfl g34 (fun w' hw' => Rd.ld (isAgg3 _) rfl (hkb1.below hw' hkb1.lt) rfl) hS33 rfl ?_
 refine WH.ty 6 rfl rfl rfl g34 (fun _ _ => Pure.rd (.mv rfl)) hS33 rfl ?_
 refine WH.ty 7 rfl rfl rfl g34 (fun _ _ => Pure.rd (.nck rfl)) hS33 rfl ?_
 refine WH.ty 8 rfl rfl rfl g34 (fun _ _ => Pure.rd (.fa underlying65 rfl sizeOf60 dD rfl)) hS33 rfl ?_
 refine WH.ty 9 rfl rfl rfl g34 (fun w' hw' => Rd.ld (isAgg60 _) rfl (hk2.below hw' hk2.lt) rfl) hS33 rfl ?_
 refine WH.ty 10 rfl rfl rfl g34 (fun _ _ => Pure.rd (.lenS underlying60 rfl)) hS33 rfl ?_
 refine WH.ty 11 rfl rfl rfl g34 (fun _ _ => Pure.rd (.lss rfl rfl)) hS33 rfl ?_
 refine WH.tp 12 rfl (.pkT rfl g34 rfl) hS33 rfl ?_
 refine WH.tp 13 rfl (.mv rfl) hS33 rfl ?_
 refine WH.cs (dj := 52) true rfl (fun g35 => ?_) (fun g35 => ?_)
 have g35' := dT g35
 refine WH.ty 14 rfl rfl rfl g35 (fun w' hw' => Rd.ldA rfl (hkb1.below hw' hkb1.lt) underlying27 rfl isz27) hS33 rfl ?_
 refine WH.ty 15 rfl rfl rfl g35 (fun _ _ => Pure.rd (.mv rfl)) hS33 rfl ?_
 refine WH.ty 16 rfl rfl rfl g35 (fun _ _ => Pure.rd (.nck rfl)) hS33 rfl ?_
 refine WH.ty 17 rfl rfl rfl g35 (fun _ _ => Pure.rd (.fa underlying65 rfl sizeOf60 dD rfl)) hS33 rfl ?_
 refine WH.ty 18 rfl rfl rfl g35 (fun w' hw' => Rd.ld (isAgg60 _) rfl (hk2.below hw' hk2.lt) rfl) hS33 rfl ?_
 refine WH.ty 19 rfl rfl rfl g35 (fun _ _ => Pure.rd (.fa underlying27 rfl sizeOf3 dD rfl)) hS33 rfl ?_
 refine WH.ty 20 rfl rfl rfl g35 (fun w' hw' => Rd.ld (isAgg3 _) rfl (hkb1.below hw' hkb1.lt) rfl) hS33 rfl ?_
 refine WH.ty 21 rfl rfl rfl g35 (fun _ _ => Pure.rd (.ixb underlying60 sizeOf30 rfl rfl (hv31.isp oO) (o.ref.toNat) oO oO)) hS33 rfl ?_
 refine WH.ty 22 rfl rfl rfl g35 (fun w' hw' => Rd.ldc (isAgg30 _) rfl ((hv6.below hw' (fun h0 => hv6.lt h0)).cells (o.ref.toNat) oO)) hS33 rfl ?_
 refine WH.ty 23 rfl rfl rfl g35 (fun _ _ => Pure.rd (.iis (((S.lists.getD o.ref.toNat []).length : Int)) (.lenS underlying30 rfl) (by rw [hll]))) hS33 rfl ?_
 refine WH.br1 24 rfl ?_
 refine WL.gy rfl rfl rfl g35 <| WL.c1 hb37 rfl rfl ((sto_within o _ _ oO (by have := hll5 o.ref.toNat; omega))) (fun w36 hw36 => ?_)
 have hS37 := Below.trans hS33 (Below.mono hw36 hS33.size)
 have hB42 := btr hB32 hw36
 refine WL.nil <| ?_
 refine ⟨hS37, ?_⟩
 refine WH.tp 25 rfl (.pkT rfl g35 rfl) hS37 rfl ?_
 refine WH.tp 26 rfl (.as rfl) hS37 rfl ?_
 refine WH.done kR ?_
 refine W.ret (W.ret1 rfl rfl ?_)
 exact ⟨rbE (by unfold validB; simp_all <;> first | omega | (intros; omega)), hB42⟩
 have g35' := dF g35
 refine WH.tn 14 rfl rfl rfl g35 hS33 rfl ?_
 refine WH.tn 15 rfl rfl rfl g35 hS33 rfl ?_
 refine WH.tn 16 rfl rfl rfl g35 hS33 rfl ?_
 refine WH.tn 17 rfl rfl rfl g35 hS33 rfl ?_
 refine WH.tn 18 rfl rfl rfl g35 hS33 rfl ?_
 refine WH.tn 19 rfl rfl rfl g35 hS33 rfl ?_
 refine WH.tn 20 rfl rfl rfl g35 hS33 rfl ?_
 refine WH.tn 21 rfl rfl rfl g35 hS33 rfl ?_
 refine WH.tn 22 rfl rfl rfl g35 hS33 rfl ?_
 refine WH.tn 23 rfl rfl rfl g35 hS33 rfl ?_
 refine WH.tn 24 rfl rfl rfl g35 hS33 rfl ?_
 refine WH.tp 25 rfl (.pkF rfl g35 rfl) hS33 rfl ?_
 refine WH.tp 26 rfl (.as rfl) hS33 rfl ?_
 refine WH.done kR ?_
 refine W.ret (W.ret1 rfl rfl ?_)
 exact ⟨rbE (by unfold validB; simp_all <;> first | omega | (intros; omega)), hB32⟩
 have g34' := dF g34
 refine WH.tn 4 rfl rfl rfl g34 hS33 rfl ?_
 refine WH.tn 5 rfl rfl rfl g34 hS33 rfl ?_
 refine WH.tn 6 rfl rfl rfl g34 hS33 rfl ?_
 refine WH.tn 7 rfl rfl rfl g34 hS33 rfl ?_
 refine WH.tn 8 rfl rfl rfl g34 hS33 rfl ?_
 refine WH.tn 9 rfl rfl rfl g34 hS33 rfl ?_
 refine WH.tn 10 rfl rfl rfl g34 hS33 rfl ?_
 refine WH.tn 11 rfl rfl rfl g34 hS33 rfl ?_
 refine WH.tp 12 rfl (.pkF rfl g34 rfl) hS33 rfl ?_
 refine WH.tp 13 rfl (.mv rfl) hS33 rfl ?_
 refine WH.tn 14 rfl rfl rfl rfl hS33 rfl ?_
 refine WH.tn 15 rfl rfl rfl rfl hS33 rfl ?_
 refine WH.tn 16 rfl rfl rfl rfl hS33 rfl ?_
 refine WH.tn 17 rfl rfl rfl rfl hS33 rfl ?_
 refine WH.tn 18 rfl rfl rfl rfl hS33 rfl ?_
 refine WH.tn 19 rfl rfl rfl rfl hS33 rfl ?_
 refine WH.tn 20 rfl rfl rfl rfl hS33 rfl ?_
 refine WH.tn 21 rfl rfl rfl rfl hS33 rfl ?_
 refine WH.tn 22 rfl rfl rfl rfl hS33 rfl ?_
 refine WH.tn 23 rfl rfl rfl rfl hS33 rfl ?_
 refine WH.tn 24 rfl rfl rfl rfl hS33 rfl ?_
 refine WH.tp 25 rfl (.pkF rfl rfl rfl) hS33 rfl ?_
 refine WH.tp 26 rfl (.as rfl) hS33 rfl ?_
 refine WH.done kR ?_
 refine W.ret (W.ret1 rfl rfl ?_)
 exact ⟨rbE (by unfold validB; simp_all <;> first | omega | (intros; omega)), hB32⟩
 have h26' := dF h26
 refine W.sr <| WL.p (.eql rfl rfl) rfl <| WL.z rfl rfl ?_
 refine W.cond rfl (fun h43 => ?_) (fun h43 => ?_)
 have h43' := dT h43
 refine W.seq <| W.regH 14 rfl mixed (fun w' => Below wb1.heap.size wb1 w') (fun w44 dw44 => ?_)
 have hB49 := Drew.below hB8 dw44
 have hS50 : Below wb1.heap.size wb1 w44 := Drew.below (Below.refl _ _) dw44
 refine WH.tp 0 rfl (.fa underlying27 rfl sizeOf3 dD rfl) hS50 rfl ?_
 refine WH.tk 1 rfl (fun w' hw' => Rd.ld (isAgg3 _) rfl (hkb1.below hw' hkb1.lt) rfl) hS50 rfl ?_
 refine WH.tp 2 rfl (.geq rfl rfl) hS50 rfl ?_
 refine WH.tp 3 rfl (.mv rfl) hS50 rfl ?_
 refine WH.cs (dj := 70) true rfl (fun g51 => ?_) (fun g51 => ?_)
 have g51' := dT g51
 refine WH.ty 4 rfl rfl rfl g51 (fun _ _ => Pure.rd (.fa underlying27 rfl sizeOf3 dD rfl)) hS50 rfl ?_
 refine WH.ty 5 rfl rfl rfl g51 (fun w' hw' => Rd.ld (isAgg3 _) rfl (hkb1.below hw' hkb1.lt) rfl) hS50 rfl ?_
 refine WH.ty 6 rfl rfl rfl g51 (fun _ _ => Pure.rd (.mv rfl)) hS50 rfl ?_
 refine WH.ty 7 rfl rfl rfl g51 (fun _ _ => Pure.rd (.nck rfl)) hS50 rfl ?_
 refine WH.ty 8 rfl rfl rfl g51 (fun _ _ => Pure.rd (.fa underlying65 rfl sizeOf61 dD rfl)) hS50 rfl ?_
 refine WH.ty 9 rfl rfl rfl g51 (fun w' hw' => Rd.ld (isAgg61 _) rfl (hk2.below hw' hk2.lt) rfl) hS50 rfl ?_
 refine WH.ty 10 rfl rfl rfl g51 (fun _ _ => Pure.rd (.lenS underlying61 rfl)) hS50 rfl ?_
 refine WH.ty 11 rfl rfl rfl g51 (fun _ _ => Pure.rd (.lss rfl rfl)) hS50 rfl ?_
 refine WH.tp 12 rfl (.pkT rfl g51 rfl) hS50 rfl ?_
 refine WH.tp 13 rfl (.as rfl) hS50 rfl ?_
 refine WH.done kR ?_
 refine W.ret (W.ret1 rfl rfl ?_)
 exact ⟨rbE (by unfold validB; simp_all <;> first | omega | (intros; omega)), hB49⟩
 have g51' := dF g51
 refine WH.tn 4 rfl rfl rfl g51 hS50 rfl ?_
 refine WH.tn 5 rfl rfl rfl g51 hS50 rfl ?_
 refine WH.tn 6 rfl rfl rfl g51 hS50 rfl ?_
 refine WH.tn 7 rfl rfl rfl g51 hS50 rfl ?_
 refine WH.tn 8 rfl rfl rfl g51 hS50 rfl ?_
 refine WH.tn 9 rfl rfl rfl g51 hS50 rfl ?_
 refine WH.tn 10 rfl rfl rfl g51 hS50 rfl ?_
 refine WH.tn 11 rfl rfl rfl g51 hS50 rfl ?_
 refine WH.tp 12 rfl (.pkF rfl g51 rfl) hS50 rfl ?_
 refine WH.tp 13 rfl (.as rfl) hS50 rfl ?_
 refine WH.done kR ?_
 refine W.ret (W.ret1 rfl rfl ?_)
 exact ⟨rbE (by unfold validB; simp_all <;> first | omega | (intros; omega)), hB49⟩
 have h43' := dF h43
 refine W.skip <| W.sr <| WL.z rfl rfl ?_
 refine W.ret (W.ret1 rfl rfl ?_)
 exact ⟨rbE (by unfold validB; simp_all <;> first | omega | (intros; omega)), hB8⟩
end
section
open Go.RowKit Go.WideShapes Go.ChangeShapes
/-- bytes as a conversion of a string lays them: the row's end is marked -/
structure Raw (w : World) (b c : Nat) (e : TypeId) (l : List UInt8) : Prop where
 cur : ∃ cur : Array Value, w.heap[b]? = some (.cells cur e (cur.size, cur.size + 1)) ∧ cur.size = c ∧ cur.toList.take l.length = byteVals l
 le : l.length ≤ c
theorem bytes_of_take {w : World} {g : Nat} {cur : Array Value} {e : TypeId} {fz : Nat × Nat} {l : List UInt8} (hg : w.heap[g]? = some (.cells cur e fz)) (ht : cur.toList.take l.length = byteVals l) : BytesAt w (some ⟨g, 0, none⟩) l := by
 refine ⟨fun _ => rfl, fun j hj => ?_⟩
 have e1 : (pA (some ⟨g, 0, none⟩)).add j = ⟨g, j, none⟩ := by
  show (⟨g, 0, none⟩ : Addr).add j = _
  unfold Addr.add; split
  ·
   next h => subst h; rfl
  ·
   simp
 rw [e1, Lib.cell_of_heap hg j, ← Array.getElem?_toList]
 have h2 : (cur.toList.take l.length)[j]? = (byteVals l)[j]? := by rw [ht]
 rw [List.getElem?_take, if_pos hj] at h2
 rw [h2]
 simp [byteVals, hj]
theorem Raw.bytes {w : World} {b c : Nat} {e : TypeId} {l : List UInt8} (h : Raw w b c e l) : BytesAt w (some ⟨b, 0, none⟩) l := by
 obtain ⟨cur, hg, -, ht⟩ := h.cur
 exact bytes_of_take hg ht
end
section
theorem sto_is (b : Nat) (F : Nat → Prop) (S : StoV) (o : ObjV) (k : Int) (w : World) (h : Sto w b F S) (hok : SOk S) : Calls Tryz.prog 25 #[.pointer (some ⟨b, 0, none⟩), .agg (objV o).toArray, .int .i64 k] w fun e w' => e = .returned (.bool (decide (o.kind = k) && validB S o)) ∧ Below w.heap.size w w' := by
 refine W.enter func25 rfl ntmps25 (Nat.le_of_ble_eq_true rfl) ?_
 have hB0 := Below.refl (w.heap.size) w
 refine W.sr <| WL.box rfl rfl (fun b1 wb1 eb1 hkb1 hub1 hsb1 => ?_)
 have hB2 := Upd.below hB0 (by rw [eb1]; exact hB0.size) hub1
 have hgeb1 : w.heap.size ≤ b1 := by rw [eb1]; exact hB0.size
 refine WL.z rfl rfl ?_
 refine W.sr <| WL.p (.fa underlying27 rfl sizeOf3 dD rfl) rfl <| WL.r (Rd.ld (isAgg3 _) rfl hkb1 rfl) rfl <| WL.m rfl rfl <| WL.p (.eql rfl rfl) rfl <| WL.m rfl rfl <| WL.gd rfl rfl rfl (fun g3 => ?_) (fun g3 => ?_)
 have g3' := dT g3
 refine WL.m rfl rfl <| WL.gy rfl rfl rfl g3 <| WL.r (Rd.ldA rfl hkb1 underlying27 rfl isz27) rfl <| WL.gy rfl rfl rfl g3 <| WL.c1 hb19 rfl rfl ((sto_Valid b F S o _ (h.below hB2) hok)) (fun w4 hw4 => ?_)
 have hB6 := btr hB2 hw4
 refine WL.p (.pkT rfl g3 rfl) rfl <| WL.z rfl rfl ?_
 refine W.ret (W.ret1 rfl rfl ?_)
 exact ⟨rbE (by simp_all), hB6⟩
 have g3' := dF g3
 refine WL.gn rfl rfl rfl g3 <| WL.gn rfl rfl rfl g3 <| WL.p (.pkF rfl g3 rfl) rfl <| WL.z rfl rfl ?_
 refine W.ret (W.ret1 rfl rfl ?_)
 exact ⟨rbE (by simp_all), hB2⟩
/-- a text's part in memory -/
theorem sto_text (lab : Lab) (b : Nat) (H : StH) (S : StoV) (o : ObjV) (i f n : Nat) (hi : i < H.ts.length) (w : World) (hS : St lab w b H S) (e1 : o.ref = i) (e2 : o.frm = f) (e3 : o.len = n) (hb : f + n ≤ H.ts[i].n) (hs : H.ts[i].n ≤ 65535) :
  Calls Tryz.prog 27 #[.pointer (some ⟨b, 0, none⟩), .agg (objV o).toArray] w fun e w' => e = .returned (.slice (pPart H.ts[i].p H.ts[i].c f) n (H.ts[i].c - f)) ∧ Below w.heap.size w w' := by
 obtain ⟨pt, ct, pl, cl, pd, cd, pc, cc, pm, cm, hr, -, -, -, -, -, hrt, -, -⟩ := hS.opn
 have hrt1 := hrt.at1
 have hi2 : i < S.texts.length := by rw [← hS.tx.len]; exact hi
 have hc : H.ts[i].n ≤ H.ts[i].c := by
  obtain ⟨q1, -, q3, -⟩ := (hS.tx.at i hi hi2).1.slv
  omega
 refine W.enter func27 rfl ntmps27 (Nat.le_of_ble_eq_true rfl) ?_
 have hB0 := Below.refl (w.heap.size) w
 refine W.sr <| WL.box rfl rfl (fun b1 wb1 eb1 hkb1 hub1 hsb1 => ?_)
 have hl3 : b < b1 := by rw [eb1]; exact hr.lt
 have hk2 := hr.upd hub1 (Nat.ne_of_lt hl3)
 have hvl5 := fun h0 => eb1 ▸ hrt1.lt h0
 have hv4 := RowAt.upd hrt1 hub1 (fun h0 => Nat.ne_of_lt (hvl5 h0))
 have hB6 := Upd.below hB0 (by rw [eb1]; exact hB0.size) hub1
 have hgeb1 : w.heap.size ≤ b1 := by rw [eb1]; exact hB0.size
 refine WL.z rfl rfl ?_
 refine W.seq <| W.regQ mixed kR ?_
 refine WQ.p (.mv rfl) rfl <| WQ.p (.nck rfl) rfl <| WQ.p (.fa underlying65 rfl sizeOf59 dD rfl) rfl <| WQ.r (fun m => Rd.ld (isAgg59 _) rfl hk2 rfl) rfl <| WQ.p (.fa underlying27 rfl sizeOf3 dD rfl) rfl <| WQ.r (fun m => Rd.ld (isAgg3 _) rfl hkb1 rfl) rfl <| WQ.p (.ixb underlying59 sizeOf35 rfl rfl (hv4.isp oO) (i) oO (hi)) rfl <| WQ.r (fun m => Rd.ldc (isAgg35 _) rfl ((hv4.drewN m).cells (i) (hi))) rfl <| WQ.p (.fa underlying27 rfl sizeOf3 dD rfl) rfl <| WQ.r (fun m => Rd.ld (isAgg3 _) rfl hkb1 rfl) rfl <| WQ.p (.fa underlying27 rfl sizeOf3 dD rfl) rfl <| WQ.r (fun m => Rd.ld (isAgg3 _) rfl hkb1 rfl) rfl <| WQ.p (.fa underlying27 rfl sizeOf3 dD rfl) rfl <| WQ.r (fun m => Rd.ld (isAgg3 _) rfl hkb1 rfl) rfl <| WQ.p (.add rfl rfl (i64w oO)) rfl <| WQ.p (.slb underlying35 sizeOf5 rfl rfl rfl  (f) (f + n) oO oO oO oO) rfl <| WQ.p (.as rfl) rfl <| WQ.nil (fun w7 dw7 => ?_)
 have hB11 := Drew.below hB6 dw7
 refine W.ret (W.ret1 rfl rfl ?_)
 exact ⟨rvE (by rw [Nat.add_sub_cancel_left]), hB11⟩
theorem Own.base {e : TypeId} {B C : Nat} {w : World} {v : Value} {l : List Value} (h : Own e B w v l) (hC : C ≤ B) : Own e C w v l := by
 obtain ⟨hl, h⟩ := h
 exact ⟨hl, h.imp id fun ⟨g, cap, cur, h1, h2, h3⟩ => ⟨g, cap, cur, h1, Nat.le_trans hC h2, h3⟩⟩
theorem by_Clone' (p : Option Addr) (l : List UInt8) (c : Nat) (w : World) (h : BytesAt w p l) (hc : l = [] → c = 0 ∨ p ≠ none) (hl : l.length ≤ 100000000) :
  Calls Tryz.prog 26 #[.slice p l.length c] w fun e w' => ∃ v, e = .returned v ∧ Below w.heap.size w w' ∧ Own 5 w.heap.size w' v (byteVals l) := by
 refine W.enter func26 rfl ntmps26 (Nat.le_of_ble_eq_true rfl) ?_
 have hB0 := Below.refl (w.heap.size) w
 refine W.sr <| WL.z rfl rfl ?_
 refine W.seq <| W.sr <| WL.m rfl rfl <| WL.p (.eqSN underlying35 rfl) rfl <| WL.nil <| ?_
 refine W.cond rfl (fun h1 => ?_) (fun h1 => ?_)
 have hp : p = none := by cases p with | none => rfl | some a => exact absurd (show (some a).isNone = true by assumption) (by simp)
 have hl0 : l = [] := by
  cases l with
  | nil => rfl
  | cons x r => have := h.isp (by simp); rw [hp] at this; cases this
 subst hl0
 refine W.sr <| WL.z rfl rfl ?_
 refine W.ret (W.ret1 rfl rfl ?_)
 first
 | exact ⟨_, rfl, hB0, Own.nil _ _ _⟩
 | exact ⟨_, rfl, hB0, by simpa using (OWN).base hgeb2⟩
 refine W.skip <| W.sr <| WL.bsl0 underlying35 sizeOf5 rfl (fun b2 wb2 eb2 hob2 hub2 hsb2 => ?_)
 have hvl4 := fun h0 => eb2 ▸ h.lt h0
 have hv3 := BytesAt.upd h hub2 (fun h0 => Nat.ne_of_lt (hvl4 h0))
 have hB5 := Upd.below hB0 (by rw [eb2]; exact hB0.size) hub2
 have hgeb2 : w.heap.size ≤ b2 := by rw [eb2]; exact hB0.size
 have hob2 := hob2 b2 (Nat.le_refl _)
 have hleb2 : b2 ≤ wb2.heap.size := by omega
 refine WL.m rfl rfl <| WL.appB underlying35 inf5 rfl rfl rfl hob2 rfl hv3 (by simp only [List.length_nil]; omega) (hleb2) rfl (hc) (fun v6 w7 how7 hbw7 hgw7 => ?_)
 have hB9 := Below.trans hB5 (hbw7.mono (hgeb2))
 have hle10 := Nat.le_trans hleb2 hbw7.size
 refine WL.z rfl rfl ?_
 refine W.ret (W.ret1 rfl rfl ?_)
 first
 | exact ⟨_, rfl, hB9, Own.nil _ _ _⟩
 | exact ⟨_, rfl, hB9, by simpa using (how7).base hgeb2⟩
theorem by_Clone (p : Option Addr) (l : List UInt8) (n c : Nat) (w : World) (hn : l.length = n) (h : BytesAt w p l) (hc : l = [] → c = 0 ∨ p ≠ none) (hl : l.length ≤ 100000000) :
  Calls Tryz.prog 26 #[.slice p n c] w fun e w' => ∃ v, e = .returned v ∧ Below w.heap.size w w' ∧ Own 5 w.heap.size w' v (byteVals l) := by
 subst hn; exact by_Clone' p l c w h hc hl
def textO (S : StoV) (o : ObjV) : List UInt8 := ((S.texts.getD o.ref.toNat []).drop o.frm.toNat).take o.len.toNat
theorem valid_text {S : StoV} {o : ObjV} (hk : o.kind = 6) (h : validB S o = true) : ∃ i f n : Nat, o.ref = i ∧ o.frm = f ∧ o.len = n ∧ i < S.texts.length ∧ f + n ≤ (S.texts.getD i []).length := by
 unfold validB withinB at h
 rw [if_pos hk] at h
 simp only [Bool.and_eq_true, decide_eq_true_eq] at h
 obtain ⟨⟨h1, h2⟩, ⟨⟨h3, h4⟩, h5⟩, h6⟩ := h
 exact ⟨o.ref.toNat, o.frm.toNat, o.len.toNat, by omega, by omega, by omega, by omega, by omega⟩
theorem OwnM.pnil {β : Type} {L : Lay β} {e : TypeId} {B : Nat} {w : World} {x : SlV} {l : List β} (h : OwnM L e B w x.v l) : x.p = none → x.c = 0 := fun hp => by
 rcases h with ⟨h1, -⟩ | ⟨g, cap, cur, h1, -⟩
 ·
  simp only [SlV.v, Value.slice.injEq] at h1; exact h1.2.2
 ·
  simp only [SlV.v, Value.slice.injEq] at h1; rw [hp] at h1; cases h1.1
theorem sto_Bytes (b : Nat) (F : Nat → Prop) (S : StoV) (o : ObjV) (w : World) (h : Sto w b F S) (hok : SOk S) :
  Calls Tryz.prog 10 #[.pointer (some ⟨b, 0, none⟩), .agg (objV o).toArray] w fun e w' => ∃ r, e = .returned r ∧ Below w.heap.size w w' ∧ ∃ v, r = .tuple #[v, .int .i64 (if (decide (o.kind = 6) && validB S o) = true then 0 else 21)] ∧ Own 5 w.heap.size w' v (byteVals (if (decide (o.kind = 6) && validB S o) = true then textO S o else [])) := by
 have hlt5 := getD_le hok.tx
 refine W.enter func10 rfl ntmps10 (Nat.le_of_ble_eq_true rfl) ?_
 have hB0 := Below.refl (w.heap.size) w
 refine W.sr <| WL.box rfl rfl (fun b1 wb1 eb1 hkb1 hub1 hsb1 => ?_)
 have hB2 := Upd.below hB0 (by rw [eb1]; exact hB0.size) hub1
 have hgeb1 : w.heap.size ≤ b1 := by rw [eb1]; exact hB0.size
 refine WL.a rfl rfl <| WL.z rfl rfl ?_
 refine W.seq <| W.sr <| WL.m rfl rfl <| WL.r (Rd.ldA rfl hkb1 underlying27 rfl isz27) rfl <| WL.c1 hb25 rfl rfl ((sto_is b F S o 6 _ (h.below hB2) hok)) (fun w3 hw3 => ?_)
 have hk4 := hkb1.below hw3 hkb1.lt
 have hB5 := btr hB2 hw3
 refine WL.p (.not rfl) rfl <| WL.nil <| ?_
 refine W.cond rfl (fun h6 => ?_) (fun h6 => ?_)
 have h6' := (nT h6)
 refine W.sr <| WL.a rfl rfl <| WL.z rfl rfl ?_
 refine W.ret (W.ret2 rfl rfl rfl ?_)
 exact ⟨_, rfl, hB5, .slice none 0 0, by rw [if_neg (by simp_all)], by rw [if_neg (by simp_all)]; exact Own.nil _ _ _⟩
 have h6' := (nF h6)
 have hv : (decide (o.kind = 6) && validB S o) = true := by simp_all
 obtain ⟨hk6, hva⟩ : o.kind = 6 ∧ validB S o = true := by simpa using hv
 obtain ⟨i, f, n, e1, e2, e3, hi, hb⟩ := valid_text hk6 hva
 obtain ⟨lab, H, hFl, hlt, hS⟩ := h.below hB5
 have hi2 : i < H.ts.length := by rw [hS.tx.len]; exact hi
 have hnn := hS.tx.nn i hi2
 obtain ⟨q1, q2, q3, q4⟩ := (hS.tx.at i hi2 hi).1.slv
 have q5 := (hS.tx.at i hi2 hi).1.pnil
 have q6 := hlt5 i
 have hte : textO S o = (S.texts[i].drop f).take n := by
  unfold textO
  rw [e1, e2, e3, Int.toNat_natCast, Int.toNat_natCast, Int.toNat_natCast, List.getD_eq_getElem?_getD, get_of hi]; rfl
 have hlen : ((S.texts[i].drop f).take n).length = n := by rw [List.length_take, List.length_drop]; omega
 have hpart : BytesAt w3 (pPart H.ts[i].p H.ts[i].c f) ((S.texts[i].drop f).take n) := by
  have := q2.bytes.part (c := H.ts[i].c) (a := f) (b := f + n) oO oO q3
  rwa [Nat.add_sub_cancel_left] at this
 have hnil : ((S.texts[i].drop f).take n) = [] → H.ts[i].c - f = 0 ∨ pPart H.ts[i].p H.ts[i].c f ≠ none := fun _ => by
  cases hp : H.ts[i].p with
  | none => have := q5 hp; left; omega
  | some a => right; unfold pPart; split <;> simp
 refine W.skip <| W.sr <| WL.m rfl rfl <| WL.r (Rd.ldA rfl hk4 underlying27 rfl isz27) rfl <| ?_
 refine WL.c1 hb27 rfl rfl ((sto_text lab b H S o i f n hi2 _ hS e1 e2 e3 oO oO)) (fun w7 hw7 => ?_)
 have hv9 := BytesAt.below hpart hw7 (fun h0 => hpart.lt h0)
 have hB10 := btr hB5 hw7
 refine WL.call hb26 rfl rfl ((by_Clone _ _ n _ _ hlen hv9 hnil oO)) (fun v w11 hw11 => ?_)
 have hB14 := btr hB10 hw11.1
 have ho := (hw11.2).base hB10.size
 refine WL.a rfl rfl <| WL.z rfl rfl ?_
 refine W.ret (W.ret2 rfl rfl rfl ?_)
 exact ⟨_, rfl, hB14, _, by rw [if_pos hv], by rw [if_pos hv, hte]; exact ho⟩
end
section
def takeE (n most cells free : Int) : Int := if n < 0 then 11 else if most < n then 9 else if free < cells then 20 else 0
theorem takeE_ok {n most cells free : Int} (h : takeE n most cells free = 0) : 0 ≤ n ∧ n ≤ most ∧ cells ≤ free := by
 unfold takeE at h
 split at h
 ·
  cases h
 ·
  split at h
  ·
   cases h
  ·
   split at h
   ·
    cases h
   ·
    omega
/-- the store's block alone is written -/
theorem St.setBlk {lab : Lab} {w w1 : World} {b : Nat} {H : StH} {S : StoV} {free' : Int} (h : St lab w b H S) (hu : Upd b w w1) (hb : Blk w1 b #[.int .i64 free', H.vt, H.vl, H.vd, H.vc, H.vm] 65) : St lab w1 b H { S with free := free' } := by
 have hs : ∀ g, lab g ≠ .st → w1.heap[g]? = w.heap[g]? := fun g hg => hu.other g fun e => hg (by rw [e]; exact h.lb)
 refine ⟨h.lb, hb, h.tx.same fun g hg => hs g ?_, h.li.same fun g hg => hs g ?_, h.di.same fun g hg => hs g ?_,
  h.oc.same fun g hg => hs g (by rw [h.lc g hg]; nofun), h.lc, h.ox.same fun g hg => hs g (by rw [h.lm g hg]; nofun), h.lm⟩
 ·
  rcases hg with e | ⟨i, e⟩ <;> rw [e] <;> nofun
 ·
  rcases hg with e | ⟨i, e⟩ <;> rw [e] <;> nofun
 ·
  rcases hg with e | ⟨i, e⟩ | ⟨i, e⟩ <;> rw [e] <;> nofun
theorem sto_take (B : Nat) (lab : Lab) (b : Nat) (H : StH) (S : StoV) (n most cells : Int) (w : World) (hL : StL B lab w b H S) (hf : 0 ≤ S.free ∧ S.free ≤ 1048576) (hc : 0 ≤ cells) :
  Calls Tryz.prog 15 #[.pointer (some ⟨b, 0, none⟩), .int .i64 n, .int .i64 most, .int .i64 cells] w fun e w' => e = .returned (.int .i64 (takeE n most cells S.free)) ∧ Only (some b) w w' ∧ StL B lab w' b H { S with free := if takeE n most cells S.free = 0 then S.free - cells else S.free } := by
 obtain ⟨hlt, hin, hS⟩ := hL
 have hr := hS.blk
 refine W.enter func15 rfl ntmps15 (Nat.le_of_ble_eq_true rfl) ?_
 refine W.sr <| WL.z rfl rfl ?_
 refine W.seq <| W.block <| W.sr <| WL.m rfl rfl <| WL.p (.eqP underlying22 rfl) rfl <| WL.z rfl rfl ?_
 refine W.condF rfl rfl ?_
 refine W.sr <| WL.m rfl rfl <| WL.p (.lss rfl rfl) rfl <| WL.z rfl rfl ?_
 refine W.cond rfl (fun h1 => ?_) (fun h1 => ?_)
 have h1' := dT h1
 refine W.sr <| WL.z rfl rfl ?_
 refine W.ret (W.ret1 rfl rfl ?_)
 first
 | exact ⟨riE (by unfold takeE; rw [if_pos oO]), Only.refl _ _, by rw [if_neg (by unfold takeE; rw [if_pos oO]; decide)]; exact ⟨hlt, hin, hS⟩⟩
 | exact ⟨riE (by unfold takeE; rw [if_neg oO, if_pos oO]), Only.refl _ _, by rw [if_neg (by unfold takeE; rw [if_neg oO, if_pos oO]; decide)]; exact ⟨hlt, hin, hS⟩⟩
 | exact ⟨riE (by unfold takeE; rw [if_neg oO, if_neg oO, if_pos oO]), Only.refl _ _, by rw [if_neg (by unfold takeE; rw [if_neg oO, if_neg oO, if_pos oO]; decide)]; exact ⟨hlt, hin, hS⟩⟩
 | exact ⟨riE (by unfold takeE; rw [if_neg oO, if_neg oO, if_neg oO]), Only.of_upd huw4 hsw4, by rw [if_pos (by unfold takeE; rw [if_neg oO, if_neg oO, if_neg oO])]; exact ⟨hlt, fun g hg => by rw [hsw4]; exact hin g hg, hS.setBlk huw4 hr⟩⟩
 have h1' := dF h1
 refine W.sr <| WL.m rfl rfl <| WL.m rfl rfl <| WL.p (.gtr rfl rfl) rfl <| WL.z rfl rfl ?_
 refine W.cond rfl (fun h2 => ?_) (fun h2 => ?_)
 have h2' := dT h2
 refine W.sr <| WL.z rfl rfl ?_
 refine W.ret (W.ret1 rfl rfl ?_)
 first
 | exact ⟨riE (by unfold takeE; rw [if_pos oO]), Only.refl _ _, by rw [if_neg (by unfold takeE; rw [if_pos oO]; decide)]; exact ⟨hlt, hin, hS⟩⟩
 | exact ⟨riE (by unfold takeE; rw [if_neg oO, if_pos oO]), Only.refl _ _, by rw [if_neg (by unfold takeE; rw [if_neg oO, if_pos oO]; decide)]; exact ⟨hlt, hin, hS⟩⟩
 | exact ⟨riE (by unfold takeE; rw [if_neg oO, if_neg oO, if_pos oO]), Only.refl _ _, by rw [if_neg (by unfold takeE; rw [if_neg oO, if_neg oO, if_pos oO]; decide)]; exact ⟨hlt, hin, hS⟩⟩
 | exact ⟨riE (by unfold takeE; rw [if_neg oO, if_neg oO, if_neg oO]), Only.of_upd huw4 hsw4, by rw [if_pos (by unfold takeE; rw [if_neg oO, if_neg oO, if_neg oO])]; exact ⟨hlt, fun g hg => by rw [hsw4]; exact hin g hg, hS.setBlk huw4 hr⟩⟩
 have h2' := dF h2
 refine W.sr <| WL.m rfl rfl <| WL.m rfl rfl <| WL.p (.nck rfl) rfl <| WL.p (.fa underlying65 rfl sizeOf3 dD rfl) rfl <| WL.r (Rd.ld (isAgg3 _) rfl hr rfl) rfl <| WL.p (.gtr rfl rfl) rfl <| WL.z rfl rfl ?_
 refine W.cond rfl (fun h3 => ?_) (fun h3 => ?_)
 have h3' := dT h3
 refine W.sr <| WL.z rfl rfl ?_
 refine W.ret (W.ret1 rfl rfl ?_)
 first
 | exact ⟨riE (by unfold takeE; rw [if_pos oO]), Only.refl _ _, by rw [if_neg (by unfold takeE; rw [if_pos oO]; decide)]; exact ⟨hlt, hin, hS⟩⟩
 | exact ⟨riE (by unfold takeE; rw [if_neg oO, if_pos oO]), Only.refl _ _, by rw [if_neg (by unfold takeE; rw [if_neg oO, if_pos oO]; decide)]; exact ⟨hlt, hin, hS⟩⟩
 | exact ⟨riE (by unfold takeE; rw [if_neg oO, if_neg oO, if_pos oO]), Only.refl _ _, by rw [if_neg (by unfold takeE; rw [if_neg oO, if_neg oO, if_pos oO]; decide)]; exact ⟨hlt, hin, hS⟩⟩
 | exact ⟨riE (by unfold takeE; rw [if_neg oO, if_neg oO, if_neg oO]), Only.of_upd huw4 hsw4, by rw [if_pos (by unfold takeE; rw [if_neg oO, if_neg oO, if_neg oO])]; exact ⟨hlt, fun g hg => by rw [hsw4]; exact hin g hg, hS.setBlk huw4 hr⟩⟩
 have h3' := dF h3
 refine W.skip <| W.sr <| WL.m rfl rfl <| WL.p (.nck rfl) rfl <| WL.p (.fa underlying65 rfl sizeOf3 dD rfl) rfl <| WL.r (Rd.ld (isAgg3 _) rfl hr rfl) rfl <| WL.m rfl rfl <| WL.p (.sub rfl rfl (i64w oO)) rfl <| WL.p (.nck rfl) rfl <| WL.p (.fa underlying65 rfl sizeOf3 dD rfl) rfl <| WL.st sizeOf3 rfl rfl rfl hr oD (fun w4 hkw4 huw4 hsw4 => ?_)
 have hkw4 : Blk w4 b _ _ := hkw4
 have huw4 : Upd b _ _ := huw4
 refine WL.nil <| ?_
 refine W.sr <| WL.z rfl rfl ?_
 refine W.ret (W.ret1 rfl rfl ?_)
 first
 | exact ⟨riE (by unfold takeE; rw [if_pos oO]), Only.refl _ _, by rw [if_neg (by unfold takeE; rw [if_pos oO]; decide)]; exact ⟨hlt, hin, hS⟩⟩
 | exact ⟨riE (by unfold takeE; rw [if_neg oO, if_pos oO]), Only.refl _ _, by rw [if_neg (by unfold takeE; rw [if_neg oO, if_pos oO]; decide)]; exact ⟨hlt, hin, hS⟩⟩
 | exact ⟨riE (by unfold takeE; rw [if_neg oO, if_neg oO, if_pos oO]), Only.refl _ _, by rw [if_neg (by unfold takeE; rw [if_neg oO, if_neg oO, if_pos oO]; decide)]; exact ⟨hlt, hin, hS⟩⟩
 | exact ⟨riE (by unfold takeE; rw [if_neg oO, if_neg oO, if_neg oO]), Only.of_upd huw4 hsw4, by rw [if_pos (by unfold takeE; rw [if_neg oO, if_neg oO, if_neg oO])]; exact ⟨hlt, fun g hg => by rw [hsw4]; exact hin g hg, hS.setBlk huw4 hkw4⟩⟩
theorem Sto.start {w : World} {b : Nat} {n : Int} (h : Blk w b #[.int .i64 n, .slice none 0 0, .slice none 0 0, .slice none 0 0, .slice none 0 0, .slice none 0 0] 65) : Sto w b (· = b) ⟨n, [], [], [], [], []⟩ := by
 refine ⟨fun g => if g = b then .st else .no, ⟨.slice none 0 0, .slice none 0 0, .slice none 0 0, .slice none 0 0, .slice none 0 0, [], [], [], []⟩, fun g => ?_, fun g hg => ?_, ⟨if_pos rfl, h, ?_, ?_, ?_, OwnM.nil _ _ _ _, labd.nil _ _, OwnM.nil _ _ _ _, labd.nil _ _⟩⟩
 ·
  show g = b ↔ (if g = b then Tag.st else Tag.no) ≠ .no
  split <;> simp_all
 ·
  have : g = b := by
   by_cases e : g = b
   ·
    exact e
   ·
    simp only [if_neg e, ne_eq, not_true_eq_false] at hg
  rw [this]; exact h.lt
 ·
  exact ⟨OwnM.nil _ _ _ _, labd.nil _ _, rfl, fun i x l hx => by simp at hx⟩
 ·
  exact ⟨OwnM.nil _ _ _ _, labd.nil _ _, rfl, fun i x l hx => by simp at hx⟩
 ·
  exact ⟨OwnM.nil _ _ _ _, labd.nil _ _, rfl, rfl, fun i g x d hg => by simp at hg⟩
theorem sto_New (n : Int) (w : World) (h0 : 1 ≤ n) (h1 : n ≤ 1048576) :
  Calls Tryz.prog 6 #[.int .i64 n] w fun e w' => ∃ r, e = .returned r ∧ Below w.heap.size w w' ∧ ∃ b F, r = .tuple #[.pointer (some ⟨b, 0, none⟩), .int .i64 0] ∧ Sto w' b F ⟨n, [], [], [], [], []⟩ ∧ ∀ g, F g → w.heap.size ≤ g := by
 refine W.enter func6 rfl ntmps6 (Nat.le_of_ble_eq_true rfl) ?_
 have hB0 := Below.refl (w.heap.size) w
 refine W.sr <| WL.a rfl rfl <| WL.z rfl rfl ?_
 refine W.seq <| W.sr <| WL.m rfl rfl <| WL.p (.lss rfl rfl) rfl <| WL.m rfl rfl <| WL.gd rfl rfl rfl (fun g1 => ?_) (fun g1 => ?_)
 have g1' := dF g1
 refine WL.m rfl rfl <| WL.gy rfl rfl rfl g1 <| WL.p (.gtr rfl rfl) rfl <| WL.p (.pkF rfl g1 rfl) rfl <| WL.nil <| ?_
 refine W.cond rfl (fun h2 => ?_) (fun h2 => ?_)
 have h2' := dT h2
 refine W.sr <| WL.a rfl rfl <| WL.z rfl rfl ?_
 refine W.ret (W.ret2 rfl rfl rfl ?_)
 exfalso; omega
 have h2' := dF h2
 refine W.skip <| W.sr <| WL.m rfl rfl <| ?_
 refine WL.p (.buildL (ps := _) blt65 rfl rfl rfl pS) rfl ?_
 refine WL.box rfl rfl (fun b3 wb3 eb3 hkb3 hub3 hsb3 => ?_)
 have hB4 := Upd.below hB0 (by rw [eb3]; exact hB0.size) hub3
 have hgeb3 : w.heap.size ≤ b3 := by rw [eb3]; exact hB0.size
 have hst := Sto.start hkb3
 have hnb : ∀ g, g = b3 → w.heap.size ≤ g := fun g e => by omega
 refine WL.a rfl rfl <| WL.z rfl rfl ?_
 refine W.ret (W.ret2 rfl rfl rfl ?_)
 exact ⟨_, rfl, hB4, _, _, rfl, hst, hnb⟩
 have g1' := dT g1
 refine WL.gn rfl rfl rfl g1 <| WL.p (.pkT rfl g1 rfl) rfl <| WL.nil <| ?_
 refine W.condT rfl rfl ?_
 refine W.sr <| WL.a rfl rfl <| WL.z rfl rfl ?_
 refine W.ret (W.ret2 rfl rfl rfl ?_)
 exfalso; omega
theorem StL.stoF {B : Nat} {lab : Lab} {w : World} {b : Nat} {H : StH} {S : StoV} {F : Nat → Prop} (h : StL B lab w b H S) (hF : ∀ g, F g ↔ lab g ≠ .no) : Sto w b F S := ⟨lab, H, hF, h.inn, h.st⟩
theorem St.chg {lab : Lab} {w w1 : World} {b : Nat} {H : StH} {S : StoV} {F : Nat → Prop} {v : Value} {t : Tag} (h : St lab w b H S) (hF : ∀ g, F g ↔ lab g ≠ .no) (hv : labd lab v t) (ht : t ≠ .no) (hk : KeepB w.heap.size (b :: v.ownBlock.toList) w w1) : Chg F F w w1 :=
 Chg.of_keep hk (fun g hg => by
  rcases List.mem_cons.1 hg with rfl | hg
  ·
   exact .inl ((hF g).2 (by rw [h.lb]; nofun))
  ·
   exact .inl ((hF g).2 (by rw [hv g (Option.mem_toList.1 hg)]; exact ht))) fun _ h => .inl h
theorem take_ge {n : Int} : 0 ≤ 1 + (max n 0 + 7) / 8 := by omega
/-- a string's cells -/
def strC (n : Int) : Int := 1 + (max n 0 + 7) / 8
def strE (S : StoV) (n : Int) : Int := takeE n 65535 (strC n) S.free
def strO (S : StoV) (n : Int) : ObjV := if strE S n = 0 then ⟨6, false, 0, 0, [], S.texts.length, 0, n⟩ else ob0
def strS (S : StoV) (n : Int) : StoV := if strE S n = 0 then { S with free := S.free - strC n, texts := S.texts ++ [List.replicate n.toNat 0] } else S
set_option maxHeartbeats 1600000 in
theorem sto_String (b : Nat) (F : Nat → Prop) (S : StoV) (n : Int) (w : World) (h : Sto w b F S) (hok : SOk S) (hn : -4611686018427387904 ≤ n ∧ n ≤ 4611686018427387904) :
  Calls Tryz.prog 7 #[.pointer (some ⟨b, 0, none⟩), .int .i64 n] w fun e w' => e = .returned (.tuple #[.agg (objV (strO S n)).toArray, .int .i64 (strE S n)]) ∧ ∃ F1, Sto w' b F1 (strS S n) ∧ Chg F F1 w w' := by
 obtain ⟨lab, H, hF, hlt, hS⟩ := h
 obtain ⟨pt, ct, pl, cl, pd, cd, pc, cc, pm, cm, hr, evt, evl, evd, evc, evm, hrt, hrl, hrd⟩ := hS.opn
 have hbl := hr.lt
 have hSL0 : StL w.heap.size lab w b H S := ⟨hlt, hlt, hS⟩
 have hot := hS.tx.own
 refine W.enter func7 rfl ntmps7 (Nat.le_of_ble_eq_true rfl) ?_
 have hB0 := KeepB.refl w.heap.size (b :: H.vt.ownBlock.toList) w
 refine W.sr <| WL.alloc zeroValue27 rfl (fun b1 wb1 eb1 hkb1 hub1 hsb1 => ?_)
 have hF2 := StL.same (w1 := wb1) hSL0 (fun k hk hl => hub1.other k oO)
 have hl4 : b < b1 := by rw [eb1]; exact hr.lt
 have hk3 := hr.upd hub1 (Nat.ne_of_lt hl4)
 have hgeb1 : w.heap.size ≤ b1 := by rw [eb1]; exact hB0.size
 have hB5 := KeepB.trans hB0 (KeepB.of_new hub1 hgeb1)
 refine WL.z rfl rfl ?_
 refine W.seq <| W.sr <| WL.m rfl rfl <| WL.m rfl rfl <| WL.m rfl rfl <| WL.p (.iis (max n 0) (.max2 rfl rfl) (by simp only [Int.max_def]; split <;> split <;> omega)) rfl <| WL.p (.add rfl rfl (i64w oO)) rfl <| WL.p (.quo rfl rfl oO (i64q oO oO oO)) rfl <| WL.p (.add rfl rfl (i64w oO)) rfl <| WL.c1 hb15 rfl rfl ((sto_take w.heap.size lab b H S n 65535 (1 + (max n 0 + 7) / 8) _ hF2 ⟨hok.free0, by have := hok.sum; omega⟩ take_ge)) (fun w6 hw6 => ?_)
 obtain ⟨hO, hL2⟩ := hw6
 obtain ⟨pt2, ct2, pl2, cl2, pd2, cd2, pc2, cc2, pm2, cm2, hr2, evt2, evl2, evd2, evc2, evm2, -⟩ := hL2.st.opn
 have hB2 := KeepB.trans hB5 (hO.keepB w.heap.size (b :: H.vt.ownBlock.toList) (fun g e => by cases e; exact .inl (List.mem_cons_self ..)))
 have hk1 := hkb1.only hO (by intro e; cases e; omega)
 have hot2 : OwnM slL 35 0 w6 (.slice pt2 H.ts.length ct2) H.ts := evt2 ▸ hL2.st.tx.own
 have hvm := hk3
 refine WL.z rfl rfl ?_
 refine W.sr <| WL.m rfl rfl <| WL.p (.neq rfl rfl) rfl <| WL.nil <| ?_
 refine W.cond rfl (fun h7 => ?_) (fun h7 => ?_)
 have h7' := ndT h7
 refine W.sr <| WL.p (.buildL (ps := _) blt27 rfl rfl rfl pZ) rfl ?_
 refine WL.m rfl rfl <| WL.stL rfl rfl hk1 isz27 rfl rfl (fun w8 hkw8 huw8 hsw8 => ?_)
 have hF9 := StL.same (w1 := w8) hL2 (fun k hk hl => huw8.other k (fun e => by first | exact hk.2 (e ▸ hb1n) | (have := hlt k hk.2; omega)))
 have hB11 := KeepB.trans hB2 (by first | exact KeepB.of_new huw8 oO | exact KeepB.of_mem huw8 (by simp))
 have huR := huw8
 refine WL.z rfl rfl ?_
 refine W.ret (W.retc2 rfl rfl (ldRow hkw8 underlying27 rfl isz27) rfl ?_)
 have hE : ¬ strE S n = 0 := by unfold strE strC; assumption
 have hL3 := hF9
 rw [if_neg aS] at hL3
 exact ⟨rvE (by unfold strO; rw [if_neg hE]; rfl), F, by unfold strS; rw [if_neg hE]; exact hL3.stoF hF, hS.chg hF hS.tx.la (by nofun) hB11⟩
 have h7' := ndF h7
 have hE : strE S n = 0 := by unfold strE strC; assumption
 obtain ⟨hn0, hn1, hcf⟩ := takeE_ok hE
 obtain ⟨k, rfl⟩ := Int.eq_ofNat_of_zero_le hn0
 have hleb : b < w6.heap.size := (hr2).lt
 have hB6 := hB2
 have hsum := hok.sum
 have hfr := hok.free0
 have hb1l := (hk1).lt
 have hvtl : ∀ g, H.vt.ownBlock = some g → g < w.heap.size := fun g hg => hlt g (by rw [hS.tx.la g hg]; nofun)
 have hbv : H.vt.ownBlock ≠ some b := fun e => by have := hS.tx.la b e; rw [hS.lb] at this; cases this
 have hB4 : KeepB w6.heap.size (b :: H.vt.ownBlock.toList) w6 w6 := KeepB.refl _ _ _
 have hs6 : w.heap.size ≤ w6.heap.size := hB6.size
 refine W.skip <| W.seq <| W.regY 12 rfl mixed (fun w12 dw12 => ?_)
 have ho13 := OwnM.drew hot2 dw12
 have hk14 := hr2.drew dw12
 have hk15 := hk1.drew dw12
 have hB16 := KeepB.trans hB4 (KeepB.of_drew dw12)
 refine WY.tk 0 rfl (.mv rfl) rfl ?_
 refine WY.tk 1 rfl (.mv rfl) rfl ?_
 refine WY.tk 2 rfl (.nck rfl) rfl ?_
 refine WY.tk 3 rfl (.fa underlying65 rfl sizeOf59 dD rfl) rfl ?_
 refine WY.tk 5 rfl (.mv rfl) rfl ?_
 refine WY.br2 4 rfl 6 rfl ?_ ?_
 refine WL.r (Rd.ld (isAgg59 _) rfl hk14 rfl) rfl <| WL.nil <| ?_
 refine WY.br1 6 rfl ?_
 have hsb0 := hB16.size
 refine WL.mkN (L := byL) (0) (k) underlying35 inf5 rfl rfl rfl rfl oO dD rfl (fun w17 how17 hbw17 => ?_)
 have ho18 := OwnM.below ho13 hbw17
 have hk19 := hk14.below hbw17 hk14.lt
 have hk20 := hk15.below hbw17 hk15.lt
 have hB21 := KeepB.trans hB16 (KeepB.of_below hbw17 hB16.size)
 have hlew17 := hbw17.size
 refine WL.nil <| ?_
 refine WY.br1 7 rfl ?_
 refine WL.bsl (ps := _) underlying59 sizeOf35 zeroValue35 rfl rfl rfl rfl rfl pR rfl (fun b22 wb22 eb22 hkb22 hub22 hsb22 => ?_)
 have ho23 := OwnM.new ho18 eb22 hub22
 have hle25 := Nat.le_trans hlew17 hub22.size
 have ho24 := OwnM.new how17 eb22 hub22
 have hl27 : b < b22 := by rw [eb22]; exact hk19.lt
 have hk26 := hk19.upd hub22 (Nat.ne_of_lt hl27)
 have hl29 : b1 < b22 := by rw [eb22]; exact hk20.lt
 have hk28 := hk20.upd hub22 (Nat.ne_of_lt hl29)
 have hgeb22 : w6.heap.size ≤ b22 := by rw [eb22]; exact hB21.size
 have hB30 := KeepB.trans hB21 (KeepB.of_new hub22 hgeb22)
 have hxl := RowM.lit (L := slL) (l := [⟨some ⟨w12.heap.size, 0, none⟩, k, k⟩]) hkb22 rfl
 have htx := ho24
 refine WL.nil <| ?_
 refine WY.br1 8 rfl ?_
 have hsb := hB30.size
 refine WL.appM underlying59 inf35 rfl rfl rfl ho23 rfl hxl (by have := hok.sum; have := hok.free0; have := hS.tx.len; simp only [List.length_cons, List.length_nil]; omega) (z_le) rfl (fun h => absurd h (List.cons_ne_nil _ _)) (fun v31 w32 how32 hbw32 hgw32 hfw32 => ?_)
 have hk33 := hk26.grown hgw32 (by rw [← evt2]; exact hbv)
 have hk34 := hk28.grown hgw32 (fun e => by have h2 := hvtl _ (by rw [evt2]; exact e); omega)
 have ho35 := OwnM.same ho24 (fun g hg => hgw32.block g ((ho24).lt g hg).2 (fun hx => by have h1 := htx.lt g hg; have h2 := hvtl g (by rw [evt2]; exact hx.symm); omega))
 have hle36 := Nat.le_trans hle25 hbw32.size
 have hB37 := KeepB.trans hB30 (KeepB.of_grown hgw32 (fun g hg => .inl (List.mem_cons_of_mem _ (Option.mem_toList.2 (by rw [evt2]; exact hg)))) hB30.size)
 obtain ⟨pn, cn, hvn, -⟩ := (how32).row
 subst hvn
 have hnf : ∀ g, (Value.slice pn (H.ts ++ [(⟨some ⟨w12.heap.size, 0, none⟩, k, k⟩ : SlV)]).length cn).ownBlock = some g → H.vt.ownBlock = some g ∨ _ := fun g hg => (hfw32 g hg).imp (fun h => by rw [evt2]; exact h) id
 refine WL.nil <| ?_
 refine WY.tk 9 rfl (.nck rfl) rfl ?_
 refine WY.tk 10 rfl (.fa underlying65 rfl sizeOf59 dD rfl) rfl ?_
 refine WY.br1 11 rfl ?_
 refine WL.st sizeOf59 rfl rfl rfl hk33 oD (fun w38 hkw38 huw38 hsw38 => ?_)
 have hkw38 : Blk w38 b _ _ := hkw38
 have huw38 : Upd b _ _ := huw38
 have ho39 := OwnM.upd how32 huw38 (fun g hg e => by subst e; rcases hnf _ hg with h | h <;> first | exact hbv h | omega)
 have hle41 := Nat.le_trans hle36 huw38.size
 have ho40 := OwnM.touch ho35 huw38 oM
 have hk42 := hk34.up huw38
 have hB43 := KeepB.trans hB37 (by first | exact KeepB.of_new huw38 oO | exact KeepB.of_mem huw38 (by simp))
 obtain ⟨lab3, hS3, hlt3, hnew3⟩ := hL2.st.addText hL2.inn (fun g h1 h2 h3 => hB43.block g h1 (by simp only [List.mem_cons, Option.mem_toList, not_or]; exact ⟨h2, h3⟩)) hB43.size (by rw [evl2, evd2, evc2, evm2]; exact hkw38) ((ho39).base fun _ _ => Nat.zero_le _) (fun g hg => (hnf g hg).imp id fun h => Nat.le_trans hsb h) ((ho40).base fun g hg => Nat.le_trans hsb0 (htx.lt g hg).1) (fun g hg e => by
  have h1 := htx.lt g hg
  rcases hnf g e with h2 | h2
  have := hvtl g h2; omega
  omega)
 have hSL3 : StL w38.heap.size lab3 w38 b _ _ := ⟨hlt3, hlt3, hS3⟩
 have hb1n : lab3 b1 = .no := by
  cases e : lab3 b1 with
  | no => rfl
  | _ =>
   rcases hnew3 b1 (by rw [e]; nofun) with h | h
   have := hlt b1 h; omega
   omega
 have hC3 := (hS.chg hF hS.tx.la (by nofun) hB6).trans (((hL2.st.chg hF hS.tx.la (by nofun) hB43)).grow (F1 := fun g => lab3 g ≠ .no) fun g hg => (hnew3 g hg).imp (fun h => (hF g).2 h) id)
 have hB5 : KeepB w38.heap.size [b1] w38 w38 := KeepB.refl _ _ _
 refine WL.nil <| ?_
 refine WY.done kR ?_
 refine W.sr <| WL.m rfl rfl <| WL.p (.nck rfl) rfl <| WL.p (.fa underlying65 rfl sizeOf59 dD rfl) rfl <| WL.r (Rd.ld (isAgg59 _) rfl hkw38 rfl) rfl <| WL.p (.iis ((S.texts.length + 1 : Int)) (.lenS underlying59 rfl) (by have := hS.tx.len; simp only [List.length_append, List.length_cons, List.length_nil]; omega)) rfl <| WL.p (.iis ((S.texts.length : Int)) (.sub rfl rfl (i64w oO)) oO) rfl <| WL.m rfl rfl <| ?_
 refine WL.p (.buildL (ps := _) blt27 rfl rfl rfl pS) rfl ?_
 refine WL.stL rfl rfl hk42 isz27 rfl rfl (fun w44 hkw44 huw44 hsw44 => ?_)
 have hle47 := Nat.le_trans hle41 huw44.size
 have hF48 := StL.same (w1 := w44) hSL3 (fun k hk hl => huw44.other k (fun e => by first | exact hk.2 (e ▸ hb1n) | (have := hlt k hk.2; omega)))
 have huR := huw44
 refine WL.z rfl rfl ?_
 refine W.ret (W.retc2 rfl rfl (ldRow hkw44 underlying27 rfl isz27) rfl ?_)
 exact ⟨rvE (by unfold strO; rw [if_pos hE, hE]; rfl), (fun g => lab3 g ≠ .no), by
  have hL4 := (hF48).stoF (F := fun g => lab3 g ≠ .no) (fun _ => Iff.rfl)
  have hE2 : takeE (k : Int) 65535 (1 + (max (k : Int) 0 + 7) / 8) S.free = 0 := hE
  rw [if_pos hE2] at hL4
  unfold strS; rw [if_pos hE, Int.toNat_natCast]; exact hL4, hC3.upd huR oO⟩
 have hsb0 := hB16.size
 refine WL.mkN (L := byL) (0) (k) underlying35 inf5 rfl rfl rfl rfl oO dD rfl (fun w51 how51 hbw51 => ?_)
 have ho52 := OwnM.below ho13 hbw51
 have hk53 := hk14.below hbw51 hk14.lt
 have hk54 := hk15.below hbw51 hk15.lt
 have hB55 := KeepB.trans hB16 (KeepB.of_below hbw51 hB16.size)
 have hlew51 := hbw51.size
 refine WL.nil <| ?_
 refine WY.br2 4 rfl 7 rfl ?_ ?_
 refine WL.r (Rd.ld (isAgg59 _) rfl hk53 rfl) rfl <| WL.nil <| ?_
 refine WY.br1 7 rfl ?_
 refine WL.bsl (ps := _) underlying59 sizeOf35 zeroValue35 rfl rfl rfl rfl rfl pR rfl (fun b56 wb56 eb56 hkb56 hub56 hsb56 => ?_)
 have ho57 := OwnM.new ho52 eb56 hub56
 have hle59 := Nat.le_trans hlew51 hub56.size
 have ho58 := OwnM.new how51 eb56 hub56
 have hl61 : b < b56 := by rw [eb56]; exact hk53.lt
 have hk60 := hk53.upd hub56 (Nat.ne_of_lt hl61)
 have hl63 : b1 < b56 := by rw [eb56]; exact hk54.lt
 have hk62 := hk54.upd hub56 (Nat.ne_of_lt hl63)
 have hgeb56 : w6.heap.size ≤ b56 := by rw [eb56]; exact hB55.size
 have hB64 := KeepB.trans hB55 (KeepB.of_new hub56 hgeb56)
 have hxl := RowM.lit (L := slL) (l := [⟨some ⟨w12.heap.size, 0, none⟩, k, k⟩]) hkb56 rfl
 have htx := ho58
 refine WL.nil <| ?_
 refine WY.br1 8 rfl ?_
 have hsb := hB64.size
 refine WL.appM underlying59 inf35 rfl rfl rfl ho57 rfl hxl (by have := hok.sum; have := hok.free0; have := hS.tx.len; simp only [List.length_cons, List.length_nil]; omega) (z_le) rfl (fun h => absurd h (List.cons_ne_nil _ _)) (fun v65 w66 how66 hbw66 hgw66 hfw66 => ?_)
 have hk67 := hk60.grown hgw66 (by rw [← evt2]; exact hbv)
 have hk68 := hk62.grown hgw66 (fun e => by have h2 := hvtl _ (by rw [evt2]; exact e); omega)
 have ho69 := OwnM.same ho58 (fun g hg => hgw66.block g ((ho58).lt g hg).2 (fun hx => by have h1 := htx.lt g hg; have h2 := hvtl g (by rw [evt2]; exact hx.symm); omega))
 have hle70 := Nat.le_trans hle59 hbw66.size
 have hB71 := KeepB.trans hB64 (KeepB.of_grown hgw66 (fun g hg => .inl (List.mem_cons_of_mem _ (Option.mem_toList.2 (by rw [evt2]; exact hg)))) hB64.size)
 obtain ⟨pn, cn, hvn, -⟩ := (how66).row
 subst hvn
 have hnf : ∀ g, (Value.slice pn (H.ts ++ [(⟨some ⟨w12.heap.size, 0, none⟩, k, k⟩ : SlV)]).length cn).ownBlock = some g → H.vt.ownBlock = some g ∨ _ := fun g hg => (hfw66 g hg).imp (fun h => by rw [evt2]; exact h) id
 refine WL.nil <| ?_
 refine WY.tk 9 rfl (.nck rfl) rfl ?_
 refine WY.tk 10 rfl (.fa underlying65 rfl sizeOf59 dD rfl) rfl ?_
 refine WY.br1 11 rfl ?_
 refine WL.st sizeOf59 rfl rfl rfl hk67 oD (fun w72 hkw72 huw72 hsw72 => ?_)
 have hkw72 : Blk w72 b _ _ := hkw72
 have huw72 : Upd b _ _ := huw72
 have ho73 := OwnM.upd how66 huw72 (fun g hg e => by subst e; rcases hnf _ hg with h | h <;> first | exact hbv h | omega)
 have hle75 := Nat.le_trans hle70 huw72.size
 have ho74 := OwnM.touch ho69 huw72 oM
 have hk76 := hk68.up huw72
 have hB77 := KeepB.trans hB71 (by first | exact KeepB.of_new huw72 oO | exact KeepB.of_mem huw72 (by simp))
 obtain ⟨lab3, hS3, hlt3, hnew3⟩ := hL2.st.addText hL2.inn (fun g h1 h2 h3 => hB77.block g h1 (by simp only [List.mem_cons, Option.mem_toList, not_or]; exact ⟨h2, h3⟩)) hB77.size (by rw [evl2, evd2, evc2, evm2]; exact hkw72) ((ho73).base fun _ _ => Nat.zero_le _) (fun g hg => (hnf g hg).imp id fun h => Nat.le_trans hsb h) ((ho74).base fun g hg => Nat.le_trans hsb0 (htx.lt g hg).1) (fun g hg e => by
  have h1 := htx.lt g hg
  rcases hnf g e with h2 | h2
  have := hvtl g h2; omega
  omega)
 have hSL3 : StL w72.heap.size lab3 w72 b _ _ := ⟨hlt3, hlt3, hS3⟩
 have hb1n : lab3 b1 = .no := by
  cases e : lab3 b1 with
  | no => rfl
  | _ =>
   rcases hnew3 b1 (by rw [e]; nofun) with h | h
   have := hlt b1 h; omega
   omega
 have hC3 := (hS.chg hF hS.tx.la (by nofun) hB6).trans (((hL2.st.chg hF hS.tx.la (by nofun) hB77)).grow (F1 := fun g => lab3 g ≠ .no) fun g hg => (hnew3 g hg).imp (fun h => (hF g).2 h) id)
 have hB5 : KeepB w72.heap.size [b1] w72 w72 := KeepB.refl _ _ _
 refine WL.nil <| ?_
 refine WY.done kR ?_
 refine W.sr <| WL.m rfl rfl <| WL.p (.nck rfl) rfl <| WL.p (.fa underlying65 rfl sizeOf59 dD rfl) rfl <| WL.r (Rd.ld (isAgg59 _) rfl hkw72 rfl) rfl <| WL.p (.iis ((S.texts.length + 1 : Int)) (.lenS underlying59 rfl) (by have := hS.tx.len; simp only [List.length_append, List.length_cons, List.length_nil]; omega)) rfl <| WL.p (.iis ((S.texts.length : Int)) (.sub rfl rfl (i64w oO)) oO) rfl <| WL.m rfl rfl <| ?_
 refine WL.p (.buildL (ps := _) blt27 rfl rfl rfl pS) rfl ?_
 refine WL.stL rfl rfl hk76 isz27 rfl rfl (fun w78 hkw78 huw78 hsw78 => ?_)
 have hle81 := Nat.le_trans hle75 huw78.size
 have hF82 := StL.same (w1 := w78) hSL3 (fun k hk hl => huw78.other k (fun e => by first | exact hk.2 (e ▸ hb1n) | (have := hlt k hk.2; omega)))
 have huR := huw78
 refine WL.z rfl rfl ?_
 refine W.ret (W.retc2 rfl rfl (ldRow hkw78 underlying27 rfl isz27) rfl ?_)
 exact ⟨rvE (by unfold strO; rw [if_pos hE, hE]; rfl), (fun g => lab3 g ≠ .no), by
  have hL4 := (hF82).stoF (F := fun g => lab3 g ≠ .no) (fun _ => Iff.rfl)
  have hE2 : takeE (k : Int) 65535 (1 + (max (k : Int) 0 + 7) / 8) S.free = 0 := hE
  rw [if_pos hE2] at hL4
  unfold strS; rw [if_pos hE, Int.toNat_natCast]; exact hL4, hC3.upd huR oO⟩
 refine WL.bsl (ps := _) underlying59 sizeOf35 zeroValue35 rfl rfl rfl rfl rfl pR rfl (fun b85 wb85 eb85 hkb85 hub85 hsb85 => ?_)
 have ho86 := OwnM.new ho52 eb85 hub85
 have hle88 := Nat.le_trans hlew51 hub85.size
 have ho87 := OwnM.new how51 eb85 hub85
 have hl90 : b < b85 := by rw [eb85]; exact hk53.lt
 have hk89 := hk53.upd hub85 (Nat.ne_of_lt hl90)
 have hl92 : b1 < b85 := by rw [eb85]; exact hk54.lt
 have hk91 := hk54.upd hub85 (Nat.ne_of_lt hl92)
 have hgeb85 : w6.heap.size ≤ b85 := by rw [eb85]; exact hB55.size
 have hB93 := KeepB.trans hB55 (KeepB.of_new hub85 hgeb85)
 have hxl := RowM.lit (L := slL) (l := [⟨some ⟨w12.heap.size, 0, none⟩, k, k⟩]) hkb85 rfl
 have htx := ho87
 refine WL.nil <| ?_
 refine WY.br1 4 rfl ?_
 refine WL.r (Rd.ld (isAgg59 _) rfl hk89 rfl) rfl <| WL.nil <| ?_
 refine WY.br1 8 rfl ?_
 have hsb := hB93.size
 refine WL.appM underlying59 inf35 rfl rfl rfl ho86 rfl hxl (by have := hok.sum; have := hok.free0; have := hS.tx.len; simp only [List.length_cons, List.length_nil]; omega) (z_le) rfl (fun h => absurd h (List.cons_ne_nil _ _)) (fun v94 w95 how95 hbw95 hgw95 hfw95 => ?_)
 have hk96 := hk89.grown hgw95 (by rw [← evt2]; exact hbv)
 have hk97 := hk91.grown hgw95 (fun e => by have h2 := hvtl _ (by rw [evt2]; exact e); omega)
 have ho98 := OwnM.same ho87 (fun g hg => hgw95.block g ((ho87).lt g hg).2 (fun hx => by have h1 := htx.lt g hg; have h2 := hvtl g (by rw [evt2]; exact hx.symm); omega))
 have hle99 := Nat.le_trans hle88 hbw95.size
 have hB100 := KeepB.trans hB93 (KeepB.of_grown hgw95 (fun g hg => .inl (List.mem_cons_of_mem _ (Option.mem_toList.2 (by rw [evt2]; exact hg)))) hB93.size)
 obtain ⟨pn, cn, hvn, -⟩ := (how95).row
 subst hvn
 have hnf : ∀ g, (Value.slice pn (H.ts ++ [(⟨some ⟨w12.heap.size, 0, none⟩, k, k⟩ : SlV)]).length cn).ownBlock = some g → H.vt.ownBlock = some g ∨ _ := fun g hg => (hfw95 g hg).imp (fun h => by rw [evt2]; exact h) id
 refine WL.nil <| ?_
 refine WY.tk 9 rfl (.nck rfl) rfl ?_
 refine WY.tk 10 rfl (.fa underlying65 rfl sizeOf59 dD rfl) rfl ?_
 refine WY.br1 11 rfl ?_
 refine WL.st sizeOf59 rfl rfl rfl hk96 oD (fun w101 hkw101 huw101 hsw101 => ?_)
 have hkw101 : Blk w101 b _ _ := hkw101
 have huw101 : Upd b _ _ := huw101
 have ho102 := OwnM.upd how95 huw101 (fun g hg e => by subst e; rcases hnf _ hg with h | h <;> first | exact hbv h | omega)
 have hle104 := Nat.le_trans hle99 huw101.size
 have ho103 := OwnM.touch ho98 huw101 oM
 have hk105 := hk97.up huw101
 have hB106 := KeepB.trans hB100 (by first | exact KeepB.of_new huw101 oO | exact KeepB.of_mem huw101 (by simp))
 obtain ⟨lab3, hS3, hlt3, hnew3⟩ := hL2.st.addText hL2.inn (fun g h1 h2 h3 => hB106.block g h1 (by simp only [List.mem_cons, Option.mem_toList, not_or]; exact ⟨h2, h3⟩)) hB106.size (by rw [evl2, evd2, evc2, evm2]; exact hkw101) ((ho102).base fun _ _ => Nat.zero_le _) (fun g hg => (hnf g hg).imp id fun h => Nat.le_trans hsb h) ((ho103).base fun g hg => Nat.le_trans hsb0 (htx.lt g hg).1) (fun g hg e => by
  have h1 := htx.lt g hg
  rcases hnf g e with h2 | h2
  have := hvtl g h2; omega
  omega)
 have hSL3 : StL w101.heap.size lab3 w101 b _ _ := ⟨hlt3, hlt3, hS3⟩
 have hb1n : lab3 b1 = .no := by
  cases e : lab3 b1 with
  | no => rfl
  | _ =>
   rcases hnew3 b1 (by rw [e]; nofun) with h | h
   have := hlt b1 h; omega
   omega
 have hC3 := (hS.chg hF hS.tx.la (by nofun) hB6).trans (((hL2.st.chg hF hS.tx.la (by nofun) hB106)).grow (F1 := fun g => lab3 g ≠ .no) fun g hg => (hnew3 g hg).imp (fun h => (hF g).2 h) id)
 have hB5 : KeepB w101.heap.size [b1] w101 w101 := KeepB.refl _ _ _
 refine WL.nil <| ?_
 refine WY.done kR ?_
 refine W.sr <| WL.m rfl rfl <| WL.p (.nck rfl) rfl <| WL.p (.fa underlying65 rfl sizeOf59 dD rfl) rfl <| WL.r (Rd.ld (isAgg59 _) rfl hkw101 rfl) rfl <| WL.p (.iis ((S.texts.length + 1 : Int)) (.lenS underlying59 rfl) (by have := hS.tx.len; simp only [List.length_append, List.length_cons, List.length_nil]; omega)) rfl <| WL.p (.iis ((S.texts.length : Int)) (.sub rfl rfl (i64w oO)) oO) rfl <| WL.m rfl rfl <| ?_
 refine WL.p (.buildL (ps := _) blt27 rfl rfl rfl pS) rfl ?_
 refine WL.stL rfl rfl hk105 isz27 rfl rfl (fun w107 hkw107 huw107 hsw107 => ?_)
 have hle110 := Nat.le_trans hle104 huw107.size
 have hF111 := StL.same (w1 := w107) hSL3 (fun k hk hl => huw107.other k (fun e => by first | exact hk.2 (e ▸ hb1n) | (have := hlt k hk.2; omega)))
 have huR := huw107
 refine WL.z rfl rfl ?_
 refine W.ret (W.retc2 rfl rfl (ldRow hkw107 underlying27 rfl isz27) rfl ?_)
 exact ⟨rvE (by unfold strO; rw [if_pos hE, hE]; rfl), (fun g => lab3 g ≠ .no), by
  have hL4 := (hF111).stoF (F := fun g => lab3 g ≠ .no) (fun _ => Iff.rfl)
  have hE2 : takeE (k : Int) 65535 (1 + (max (k : Int) 0 + 7) / 8) S.free = 0 := hE
  rw [if_pos hE2] at hL4
  unfold strS; rw [if_pos hE, Int.toNat_natCast]; exact hL4, hC3.upd huR oO⟩
theorem BytesAt.rowM {w : World} {p : Option Addr} {l : List UInt8} (h : BytesAt w p l) : RowM byL w p l := ⟨h.isp, fun j hj i hi => by
 obtain rfl : i = 0 := by simp only [byL] at hi; omega
 have := h.cells j hj
 simpa [byL] using this⟩
theorem Chg.only {F : Nat → Prop} {o : Option Nat} {w w1 : World} (h : Only o w w1) (ho : ∀ g, o = some g → F g) : Chg F F w w1 := ⟨h.os, h.tape, h.output, by rw [h.size]; exact Nat.le_refl _, fun k _ hn => h.block k fun e => hn (ho k e), fun _ hg => .inl hg⟩
def textS (S : StoV) (l : List UInt8) : StoV := if strE S l.length = 0 then { S with free := S.free - strC l.length, texts := S.texts ++ [l] } else S
theorem strS_texts {S : StoV} {n : Nat} (h : strE S n = 0) : (strS S n).texts = S.texts ++ [List.replicate n 0] := by unfold strS; rw [if_pos h, Int.toNat_natCast]
set_option maxHeartbeats 1600000 in
theorem sto_Text (b : Nat) (F : Nat → Prop) (S : StoV) (p : Option Addr) (l : List UInt8) (c : Nat) (w : World) (h : Sto w b F S) (hok : SOk S) (hb : BytesAt w p l) (hnF : 0 < l.length → ¬ F (pA p).block) (hl : l.length ≤ 1000000000) :
  Calls Tryz.prog 12 #[.pointer (some ⟨b, 0, none⟩), .slice p l.length c] w fun e w' => e = .returned (.tuple #[.agg (objV (strO S l.length)).toArray, .int .i64 (strE S l.length)]) ∧ ∃ F1, Sto w' b F1 (textS S l) ∧ Chg F F1 w w' := by
 refine W.enter func12 rfl ntmps12 (Nat.le_of_ble_eq_true rfl) ?_
 have hB0 := Chg.refl F w
 refine W.sr <| WL.alloc zeroValue27 rfl (fun b1 wb1 eb1 hkb1 hub1 hsb1 => ?_)
 have hF2 := Sto.same (w1 := wb1) h (fun k hk hl => hub1.other k oO)
 have hvl4 := fun h0 => eb1 ▸ hb.lt h0
 have hv3 := bup hb hub1 hvl4
 have hgeb1 : w.heap.size ≤ b1 := by rw [eb1]; exact hB0.size
 have hB5 := Chg.upd hB0 hub1 hgeb1
 have hnf6 : ¬ F b1 := fun hq => by have hq1 := (h).lt hq; omega
 refine WL.z rfl rfl ?_
 refine W.sr <| WL.m rfl rfl <| WL.m rfl rfl <| WL.p (.lenS underlying35 rfl) rfl <| WL.c1 hb7 rfl rfl ((sto_String b F S (l.length : Int) _ hF2 hok oO)) (fun w7 hw7 => ?_)
 obtain ⟨F8, hstF8, hCF8, hxF8⟩ := Chg.open hw7
 have hnf9 := Chg.nf hCF8 hnf6 hkb1.lt
 have hk10 := Blk.chg hkb1 hCF8 hnf6
 have hnf12 := fun h0 => Chg.nf hCF8 (hnF h0) (hv3.lt h0)
 have hv11 := BytesAt.chg hv3 hCF8 hnF
 have hB13 := Chg.trans hB5 hCF8
 refine WL.m rfl rfl <| WL.p (.ext rfl rfl) rfl <| WL.p (.ext rfl rfl) rfl <| WL.alloc zeroValue27 rfl (fun b14 wb14 eb14 hkb14 hub14 hsb14 => ?_)
 have hF15 := Sto.same (w1 := wb14) hstF8 (fun k hk hl => hub14.other k oO)
 have hl17 : b1 < b14 := by rw [eb14]; exact hk10.lt
 have hk16 := hk10.upd hub14 (Nat.ne_of_lt hl17)
 have hvl19 := fun h0 => eb14 ▸ hv11.lt h0
 have hv18 := bup hv11 hub14 hvl19
 have hgeb14 : w.heap.size ≤ b14 := by rw [eb14]; exact hB13.size
 have hB20 := Chg.upd hB13 hub14 hgeb14
 have hnf21 : ¬ F8 b14 := fun hq => by have hq1 := (hstF8).lt hq; omega
 refine WL.stL rfl rfl hkb14 isz27 rfl rfl (fun w22 hkw22 huw22 hsw22 => ?_)
 have hF23 := Sto.same (w1 := w22) hF15 (fun k hk hl => huw22.other k (fun e => hnf21 (e ▸ hk)))
 have hk24 := hk16.up huw22
 have hv25 := bup hv18 huw22 hvl19
 have hB26 := Chg.upd hB20 huw22 oO
 refine WL.z rfl rfl ?_
 refine W.seq <| W.sr <| WL.m rfl rfl <| WL.p (.eql rfl rfl) rfl <| WL.nil <| ?_
 refine W.cond rfl (fun h27 => ?_) (fun h27 => ?_)
 have h27' := dT h27
 have hE : strE S l.length = 0 := by assumption
 refine W.regT 9 mixed kR (fun w28 dw28 => ?_)
 have hF29 := Sto.same (w1 := w28) hF23 (fun k hk hl => (by obtain ⟨m, rfl⟩ := dw28; rfl))
 have hk30 := hk24.drew dw28
 have hk31 := hkw22.drew dw28
 have hv32 := hv25.drew dw28
 have hB33 := Chg.drew hB26 dw28
 refine WS.p (.mv rfl) rfl <| ?_
 have hstx := strS_texts hE
 have hst := hF29
 obtain ⟨lab, H, hF, hlt, hS⟩ := hst
 obtain ⟨pt, ct, pl, cl, pd, cd, pc, cc, pm, cm, hr, -, -, -, -, -, hrt, -, -⟩ := hS.opn
 have hrt1 := hrt.at1
 have hlen : H.ts.length = S.texts.length + 1 := by rw [hS.tx.len, hstx]; simp
 have hi : S.texts.length < H.ts.length := by omega
 have hg1 : (strS S l.length).texts[S.texts.length]? = some (List.replicate l.length 0) := by rw [hstx, List.getElem?_append_right (Nat.le_refl _)]; simp
 have hg2 := get_of hi
 obtain ⟨hx, hxl⟩ := hS.tx.el _ _ _ hg2 hg1
 refine WS.p (.nck rfl) rfl <| WS.p (.fa underlying65 rfl sizeOf59 dD rfl) rfl <| WS.r (Rd.ld (isAgg59 _) rfl hr rfl) rfl <| WS.p (.fa underlying27 rfl sizeOf3 dD rfl) rfl <| WS.r (Rd.ld (isAgg3 _) rfl hk31 rfl) rfl <| WS.p (.ixb underlying59 sizeOf35 rfl rfl (hrt1.isp oO) (S.texts.length) (by simp only [strO, if_pos hE]) (hi)) rfl <| WS.r (Rd.ldc (isAgg35 _) rfl (hrt1.cells (S.texts.length) (hi))) rfl <| WS.p (.mv rfl) rfl <| WS.nil ?_
 refine WL.cpG (L := byL) (l := List.replicate l.length 0) 0 underlying35 sizeOf5 hx (by simp) rfl (fun h0 => by rw [Nat.zero_mul, add_zero_addr]; exact hx.slv.2.1.isp (by simpa using h0)) (by have := hx.slv.1; simp only [List.length_replicate] at this; omega) rfl (hv32).rowM rfl (fun w90 hO90 ho90 => ?_)
 have hC90 : Chg F8 F8 w28 w90 := Chg.only hO90 (fun g hg => (hF g).2 (by rw [hxl g hg]; nofun))
 have hS90 := hS.setText hg2 hg1 hO90 ho90
 have hst90 : Sto w90 b F8 (textS S l) := by
  refine ⟨lab, H, hF, fun g hg => by rw [hO90.size]; exact hlt g hg, ?_⟩
  have e : textS S l = { strS S l.length with texts := (strS S l.length).texts.set S.texts.length ((List.replicate l.length 0).take 0 ++ l ++ (List.replicate l.length 0).drop (0 + l.length)) } := by
   rw [hstx, List.set_append_right _ _ (Nat.le_refl _)]
   unfold textS strS
   rw [if_pos hE, if_pos hE]
   simp
  rw [e]; exact hS90
 have hnf34 := Chg.nf hC90 hnf9 hk30.lt
 have hnf35 := Chg.nf hC90 hnf21 hk31.lt
 have hk36 := Blk.chg hk30 hC90 hnf9
 have hk37 := Blk.chg hk31 hC90 hnf21
 have hnf39 := fun h0 => Chg.nf hC90 (hnf12 h0) (hv32.lt h0)
 have hB40 := Chg.trans hB33 hC90
 refine WL.nil <| ?_
 refine W.sr <| WL.r (Rd.ldA rfl hk37 underlying27 rfl isz27) rfl <| WL.m rfl rfl <| WL.stL rfl rfl hk36 isz27 rfl rfl (fun w41 hkw41 huw41 hsw41 => ?_)
 have hF42 := Sto.same (w1 := w41) hst90 (fun k hk hl => huw41.other k (fun e => hnf34 (e ▸ hk)))
 have hB45 := Chg.upd hB40 huw41 oO
 refine WL.z rfl rfl ?_
 refine W.ret (W.retc2 rfl rfl (ldRow hkw41 underlying27 rfl isz27) rfl ?_)
 exact ⟨rfl, _, hF42, hB45⟩
 have h27' := dF h27
 have hE : ¬ strE S l.length = 0 := by assumption
 have hss : strS S l.length = textS S l := by unfold strS textS; rw [if_neg hE, if_neg hE]
 refine W.skip <| W.sr <| WL.r (Rd.ldA rfl hkw22 underlying27 rfl isz27) rfl <| WL.m rfl rfl <| WL.stL rfl rfl hk24 isz27 rfl rfl (fun w46 hkw46 huw46 hsw46 => ?_)
 have hF47 := Sto.same (w1 := w46) hF23 (fun k hk hl => huw46.other k (fun e => hnf9 (e ▸ hk)))
 have hB50 := Chg.upd hB26 huw46 oO
 refine WL.z rfl rfl ?_
 refine W.ret (W.retc2 rfl rfl (ldRow hkw46 underlying27 rfl isz27) rfl ?_)
 exact ⟨rfl, _, hss ▸ hF47, hB50⟩
end
end Go.Proofs.YtopnfojdmeageaaGreatDoor
