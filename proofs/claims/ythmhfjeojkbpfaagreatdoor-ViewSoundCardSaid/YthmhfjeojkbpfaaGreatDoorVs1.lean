/-
  What the claim leans on, part 1: pruned and joined by my own tool out of the texts that stand in wip/ as templates.
-/
import Derived.WalkKit
import Derived.WalkSpells
import Derived.WalkLawsBesides
import Derived.Test.YthmhfjeojkbpfaaGreatDoorRows
import Derived.Deep.QuietTactic
import Derived.StillTail
import Derived.Laws.BytesString
import Derived.Laws.Slices
import Derived.Carry
import Derived.ChangeSlices
import Derived.Lib.ConvBytes
import Derived.Laws.AppendOwn
import Derived.Lib.FrozenHead
import Derived.Lib.AppendStr
import Derived.Laws.CopyRow
import Derived.Deep.MidRow
import Derived.Lib.SliceRun
import Derived.Deep.Slices
import Derived.ProofKit
import Derived.OpenShut
import Derived.Stop.BytesEq
import Derived.Shelf.Strings.Builder1
import Derived.Shelf.Strings.Builder2
import Derived.Shelf.Strings.Trim
import Derived.Shelf.Small.Utf8
import Derived.Shelf.Small.Strs
import Derived.Shelf.Strings.BuilderF
import Derived.Shelf.Strings.BuilderK
import Derived.Shelf.Strings.Builder2Cap
import Derived.Shelf.Strings.Search1
import Derived.Shelf.Strings.Search2
import Derived.Shelf.Strings.Cut
import Derived.Shelf.LaysM
import Derived.Shelf.Strings.Shaped
import Derived.Shelf.Strings.Prefix
import Derived.Shelf.Unicode.Decode
import Derived.Shelf.Strings.Runes
import Derived.Shelf.Strings.IndexAny
import Derived.Shelf.Strings.AsciiSet
import Derived.Shelf.Strings.IndexAnyAll
import Derived.Shelf.Bits.Mul64
import Derived.Shelf.Strings.Repeat
import Derived.Shelf.Unicode.DecodeSlow
import Derived.Shelf.Unicode.DecodeAny
import Derived.Shelf.Unicode.DecodeLast
import Derived.Shelf.Strings.BuilderCap
import Derived.Test.YthmhfjeojkbpfaaGreatDoorProg
import Derived.Shelf.Strings.SlTrimAscii
import Derived.BigQuiet
import Derived.Deep.DeepCutAuto
import Derived.Recover
import Derived.Lib.AppendZerosOnto
import Derived.Laws.OwnMore
import Derived.OrdersHeld
import Derived.Laws.Entries
import Derived.RangeFuncIn
import Derived.RangeFuncLeaves
import Derived.RangeFuncOwn
import Derived.Test.YthmhfjeojkbpfaaGreatDoorCards
import Derived.Test.YthmhfjeojkbpfaaGreatDoorTie
import Derived.Deep.DeepHandedRow
import Derived.Lib.LaidTab
namespace Go.Proofs.YthmhfjeojkbpfaaGreatDoor
open Go.RowKit
open Go.Proofs.Tryz
abbrev g22_ := @isAgg22
abbrev g3_ := @isAgg3
abbrev g30_ := @isAgg30
abbrev g34_ := @isAgg34
abbrev g38_ := @isAgg38
abbrev g39_ := @isAgg39
abbrev g5_ := @isAgg5
abbrev g65_ := @isAgg65
abbrev g69_ := @isAgg69
abbrev g71_ := @isAgg71
abbrev g72_ := @isAgg72
abbrev g9_ := @isAgg9
abbrev s22_ := @sizeOf22
abbrev s29_ := @sizeOf29
abbrev s3_ := @sizeOf3
abbrev s30_ := @sizeOf30
abbrev s34_ := @sizeOf34
abbrev s37_ := @sizeOf37
abbrev s38_ := @sizeOf38
abbrev s39_ := @sizeOf39
abbrev s4_ := @sizeOf4
abbrev s41_ := @sizeOf41
abbrev s42_ := @sizeOf42
abbrev s5_ := @sizeOf5
abbrev s57_ := @sizeOf57
abbrev s61_ := @sizeOf61
abbrev s68_ := @sizeOf68
abbrev s69_ := @sizeOf69
abbrev s71_ := @sizeOf71
abbrev s72_ := @sizeOf72
abbrev s9_ := @sizeOf9
abbrev s94_ := @sizeOf94
abbrev s99_ := @sizeOf99
abbrev u112_ := @underlying112
abbrev u133_ := @underlying133
abbrev u147_ := @underlying147
abbrev u180_ := @underlying180
abbrev u216_ := @underlying216
abbrev u22_ := @underlying22
abbrev u23_ := @underlying23
abbrev u25_ := @underlying25
abbrev u29_ := @underlying29
abbrev u3_ := @underlying3
abbrev u30_ := @underlying30
abbrev u34_ := @underlying34
abbrev u35_ := @underlying35
abbrev u37_ := @underlying37
abbrev u38_ := @underlying38
abbrev u39_ := @underlying39
abbrev u41_ := @underlying41
abbrev u42_ := @underlying42
abbrev u44_ := @underlying44
abbrev u5_ := @underlying5
abbrev u57_ := @underlying57
abbrev u61_ := @underlying61
abbrev u68_ := @underlying68
abbrev u69_ := @underlying69
abbrev u71_ := @underlying71
abbrev u72_ := @underlying72
abbrev u74_ := @underlying74
abbrev u9_ := @underlying9
abbrev u94_ := @underlying94
abbrev u97_ := @underlying97
abbrev u99_ := @underlying99
abbrev z147_ := @zeroValue147
abbrev z3_ := @zeroValue3
abbrev z42_ := @zeroValue42
abbrev z5_ := @zeroValue5
abbrev z57_ := @zeroValue57
abbrev z61_ := @zeroValue61
abbrev z94_ := @zeroValue94
abbrev z99_ := @zeroValue99
section
theorem hid {p : Prop} (h : p) : Hid p := h
def BRow (w : World) (b : Nat) (l : List Value) : Prop := ∀ j v, l[j]? = some v → w.cell? ⟨b, j, none⟩ = some v ∧ w.frozen? ⟨b, j, none⟩ = false
theorem BRow.set {w : World} {b : Nat} {l : List Value} (h : BRow w b l) (i : Nat) (v : Value) (hi : i < l.length) : BRow (w.setCell ⟨b, i, none⟩ v) b (l.set i v) := by
 intro j u hj
 rw [World.frozen?_setCell]
 by_cases e : i = j
 ·
  subst e
  rw [List.getElem?_set_self hi] at hj
  obtain rfl : v = u := by simpa using hj
  obtain ⟨a, c⟩ := h i l[i] (by simp [hi])
  exact ⟨World.cell?_setCell_same _ _ _ a, c⟩
 ·
  rw [List.getElem?_set_ne e] at hj
  obtain ⟨a, c⟩ := h j u hj
  rw [World.cell?_setCell_other _ _ _ _ (by intro h; simp at h)]
  exact ⟨a, c⟩
def byteVals (l : List UInt8) : List Value := l.map fun (c : UInt8) => Value.int .u8 (c.toNat : Int)
theorem btr {w w1 w2 : World} (h : Below w.heap.size w w1) (k : Below w1.heap.size w1 w2) : Below w.heap.size w w2 := h.trans (k.mono h.size)
theorem bdrewN (w : World) (q : Nat) : Below w.heap.size w (w.drewN q) := ⟨rfl, rfl, rfl, Nat.le_refl _, fun _ _ => rfl⟩
section
variable {P : Program}
theorem bytesRow_cell (w : World) (s : ByteArray) (cap : Nat) (e : TypeId) (hc : s.size ≤ cap) : BRow (w.drew.alloc (.cells (bytesRow s cap) e ((bytesRow s cap).size, (bytesRow s cap).size + 1))) w.heap.size (byteVals s.data.toList) := by
 intro j v hj
 have hj' : j < s.data.size := by
  rcases Nat.lt_or_ge j s.data.size with h | h
  ·
   exact h
  ·
   rw [List.getElem?_eq_none (by simpa [byteVals] using h)] at hj; cases hj
 have c : (bytesRow s cap).size = cap := by
  unfold bytesRow
  have a : s.data.size = s.size := rfl
  simp [a]; omega
 constructor
 ·
  have b := World.cell?_alloc_mark w.drew (bytesRow s cap) e ((bytesRow s cap).size, (bytesRow s cap).size + 1) j
  have d := bytesRow_at s cap j hj'
  have a : w.drew.heap.size = w.heap.size := rfl
  rw [a] at b
  rw [b, d, ← hj]
  simp only [byteVals, List.getElem?_map, Array.getElem?_toList]
  rw [Array.getElem?_eq_getElem hj']; rfl
 ·
  have b := World.frozen?_alloc_mark w.drew (bytesRow s cap) e (bytesRow s cap).size ((bytesRow s cap).size + 1) j
  have a : w.drew.heap.size = w.heap.size := rfl
  rw [a] at b
  have f : s.data.size = s.size := rfl
  rw [b, c]
  simp; omega
theorem wpList_conv_bytes {ops : Array Oper} {rest : List Oper} {o : Oper} {a : Act} {Q : Exit → Act → World → Prop} {w : World} (hg : o.guard = none) (x : Operand) (ts tb te : TypeId) (hop : o.op = .convert ts tb x)
  (h1 : P.underlying ts = some .string) (h2 : P.underlying tb = some (.slice te)) (h3 : P.underlying te = some (.int .u8)) (s : ByteArray) (hx : a.eval x = .string s)
  (h : ∀ cap w', s.size ≤ cap → BRow w' w.heap.size (byteVals s.data.toList) → w.grownBy w' none → w'.heap.size = w.heap.size + 1 →
   wpList P ops Q rest (a.put o.dst (.slice (some ⟨w.heap.size, 0, none⟩) s.size cap)) w') : wpList P ops Q (o :: rest) a w := by
 refine wpList_plain hg fun K hK => ?_
 have hr := run_bytes_of_string (P := P) w ts tb te s h1 h2 h3
 unfold Oper.wp
 simp only [execOp, hop, hx, Sem.run_bind, hr, Result.andThen, Sem.run_pure, Oper.upon]
 refine hK _ _ (h _ _ (grownCap_ge w s.size 0 te) ?_ ?_ ?_)
 ·
  exact bytesRow_cell w s _ te (grownCap_ge w s.size 0 te)
 ·
  exact ⟨rfl, rfl, rfl, by simp, fun k hk _ => heap_alloc_old w.drew _ hk⟩
 ·
  simp
theorem below_of_grown {w w' : World} (h : w.grownBy w' none) : Below w.heap.size w w' :=
 (Below.refl _ _).grown h (Nat.le_refl _) (by intro k hk; cases hk)
end
end
section
def fitsB (n : Int) : Bool := decide (-2147483648 ≤ n) && decide (n ≤ 2147483647)
theorem fitsB_lo {n : Int} (h : n < -2147483648) : fitsB n = false := by
 have : ¬ (-2147483648 ≤ n) := by omega
 simp [fitsB, this]
set_option maxHeartbeats 400000 in
theorem fix_Fits (n : Int) (w : World) :
  Calls Tryz.prog 111 #[.int .i64 n] w fun e w' => e = .returned (.bool (fitsB n)) ∧ w = w' := by
 go_enter func111, ntmps111
 go_wp2
 ·
  go_ret
  have h : -2147483648 ≤ n := by assumption
  exact ⟨by simp [fitsB, h], rfl⟩
 ·
  go_ret
  have h : n < -2147483648 := by assumption
  exact ⟨by simp [fitsB_lo h], rfl⟩
set_option maxHeartbeats 400000 in
theorem ref_Fits (n : Int) (w : World) :
  Calls Tryz.prog 15 #[.int .i64 n] w fun e w' => e = .returned (.bool (fitsB n)) ∧ w = w' := by
 go_enter func15, ntmps15
 go_wp2
 ·
  go_ret
  have h : -2147483648 ≤ n := by assumption
  exact ⟨by simp [fitsB, h], rfl⟩
 ·
  go_ret
  have h : n < -2147483648 := by assumption
  exact ⟨by simp [fitsB_lo h], rfl⟩
def ch (n : Int) : UInt8 := UInt8.ofNat n.toNat
def bs (l : List UInt8) : ByteArray := ⟨l.toArray⟩
theorem bs_append (a b : List UInt8) : bs a ++ bs b = bs (a ++ b) := by
 apply ByteArray.ext
 simp [bs]
theorem bs_size (l : List UInt8) : (bs l).size = l.length := by simp [bs, ByteArray.size]
end
section
def overI (a b : Int) : Int := if 2 * a.tmod b ≥ b then a.tdiv b + 1 else if -2 * a.tmod b ≥ b then a.tdiv b - 1 else a.tdiv b
def withR (n : Int) : Int × Int := if fitsB n = true then (n, 0) else (0, 18)
def addR (a b : Int) : Int × Int := if (fitsB a && fitsB b) = true then withR (a + b) else (0, 11)
def subR (a b : Int) : Int × Int := if (fitsB a && fitsB b) = true then withR (a - b) else (0, 11)
def mulR (a b : Int) : Int × Int := if (fitsB a && fitsB b) = true then withR (overI (a * b) 65536) else (0, 11)
def sumR : Int → List Int → Int × Int
 | t, [] => (t, 0)
 | t, n :: r => if (addR t n).2 = 0 then sumR (addR t n).1 r else (0, (addR t n).2)
def tookE (e f : Int) : Int := if e = 0 then f else e
structure M6 where
 a : Int
 b : Int
 c : Int
 d : Int
 e : Int
 f : Int
def m6V (m : M6) : List Value := [.int .i64 m.a, .int .i64 m.b, .int .i64 m.c, .int .i64 m.d, .int .i64 m.e, .int .i64 m.f]
def m6I : M6 := ⟨65536, 0, 0, 65536, 0, 0⟩
def m60 : M6 := ⟨0, 0, 0, 0, 0, 0⟩
def m6T (x y : Int) : M6 := ⟨65536, 0, 0, 65536, x, y⟩
def m6S (x y : Int) : M6 := ⟨x, 0, 0, y, 0, 0⟩
def twoR (e a x c y : Int) (more : List Int) : Int × Int :=
 let s := sumR 0 ((mulR a x).1 :: (mulR c y).1 :: more)
 (s.1, tookE (tookE (tookE e (mulR a x).2) (mulR c y).2) s.2)
def pointR (e x y : Int) : (Int × Int) × Int := if e ≠ 0 then ((0, 0), e) else ((x, y), 0)
def applyR (m : M6) (x y : Int) : (Int × Int) × Int :=
 let p := twoR 0 m.a x m.c y [m.e]
 let q := twoR p.2 m.b x m.d y [m.f]
 pointR q.2 p.1 q.1
def deltaR (m : M6) (x y : Int) : (Int × Int) × Int :=
 let p := twoR 0 m.a x m.c y []
 let q := twoR p.2 m.b x m.d y []
 pointR q.2 p.1 q.1
def concatR (a b : M6) : M6 × Int :=
 let u := deltaR b a.a a.b
 if u.2 ≠ 0 then (m60, u.2) else
 let v := deltaR b a.c a.d
 if v.2 ≠ 0 then (m60, v.2) else
 let t := applyR b a.e a.f
 if t.2 ≠ 0 then (m60, t.2) else (⟨u.1.1, u.1.2, v.1.1, v.1.2, t.1.1, t.1.2⟩, 0)
theorem fitsI {n : Int} (h : fitsB n = true) : -2147483648 ≤ n ∧ n ≤ 2147483647 := by unfold fitsB at h; simpa using h
theorem fitsN {n : Int} (h1 : -2147483648 ≤ n) (h2 : n ≤ 2147483647) : fitsB n = true := by unfold fitsB; simp; omega
theorem withR_fits (n : Int) : fitsB (withR n).1 = true := by
 unfold withR; split
 ·
  assumption
 ·
  decide
theorem addR_fits (a b : Int) : fitsB (addR a b).1 = true := by
 unfold addR; split
 ·
  exact withR_fits _
 ·
  decide
theorem subR_fits (a b : Int) : fitsB (subR a b).1 = true := by
 unfold subR; split
 ·
  exact withR_fits _
 ·
  decide
theorem mulR_fits (a b : Int) : fitsB (mulR a b).1 = true := by
 unfold mulR; split
 ·
  exact withR_fits _
 ·
  decide
theorem sumR_fits (l : List Int) : ∀ t, fitsB t = true → fitsB (sumR t l).1 = true := by
 induction l with
 | nil => intro t h; exact h
 | cons n r ih =>
  intro t h
  rw [sumR]; split
  ·
   exact ih _ (addR_fits _ _)
  ·
   exact (by decide : fitsB 0 = true)
theorem twoR_fits (e a x c y : Int) (more : List Int) : fitsB (twoR e a x c y more).1 = true := sumR_fits _ _ (by decide)
theorem over_le {a : Int} (h : -4611686018427387904 ≤ a ∧ a ≤ 4611686018427387904) : -70368744177665 ≤ overI a 65536 ∧ overI a 65536 ≤ 70368744177665 := by
 unfold overI
 have c := Int.mul_tdiv_add_tmod a 65536
 have d : -65536 < a.tmod 65536 ∧ a.tmod 65536 < 65536 := by
  have := Int.tmod_lt_of_pos a (b := 65536) (by decide)
  have := Int.lt_tmod_of_pos a (b := 65536) (by decide)
  omega
 split
 ·
  omega
 ·
  split <;> omega
theorem mul_range {a b : Int} (ha : fitsB a = true) (hb : fitsB b = true) : -4611686018427387904 ≤ a * b ∧ a * b ≤ 4611686018427387904 := by
 have d := fitsI ha
 have e := fitsI hb
 have c : a.natAbs * b.natAbs ≤ 2147483648 * 2147483648 := Nat.mul_le_mul (by omega) (by omega)
 rw [← Int.natAbs_mul] at c
 omega
end
section
abbrev Fr := List (Nat × Value)
def look : Fr → Nat → Option Value
 | [], _ => none
 | (j, v) :: r, i => bif Nat.beq j i then some v else look r i
def evo (f : Fr) : Operand → Option Value
 | .tmp t => look f t
 | .const v => some v
 | .global g => some (.pointer (some ⟨g, 0, none⟩))
 | .func k => some (.func (.func k) #[] #[])
def Sub : Fr → Fr → Prop
 | [], _ => True
 | (j, v) :: g, f => look f j = some v ∧ Sub g f
theorem Sub.look {g f : Fr} (h : Sub g f) {i : Nat} {v : Value} (hv : look g i = some v) : look f i = some v := by
 induction g with
 | nil => cases hv
 | cons p g ih =>
  obtain ⟨j, u⟩ := p
  unfold Go.Proofs.YthmhfjeojkbpfaaGreatDoor.look at hv
  cases hb : Nat.beq j i with
  | true =>
   rw [hb] at hv
   obtain rfl : j = i := Nat.eq_of_beq_eq_true hb
   rw [h.1]; exact hv
  | false => rw [hb] at hv; exact ih h.2 hv
structure Sh where
 n : Nat
 D : List Deferred
def Rep (n : Sh) (f : Fr) (a : Act) : Prop := a.defers = n.D ∧ a.tmps.size = n.n ∧ ∀ i v, look f i = some v → a.tmps.getD i undef = v
theorem Rep.sub {n : Sh} {f g : Fr} {a : Act} (h : Rep n f a) (hs : Sub g f) : Rep n g a := ⟨h.1, h.2.1, fun i v hv => h.2.2 i v (hs.look hv)⟩
theorem Rep.put {n : Sh} {f : Fr} {a : Act} (h : Rep n f a) {d : Nat} (hd : Nat.blt d n.n = true) (v : Value) : Rep n ((d, v) :: f) (a.put (some d) v) := by
 have b : d < n.n := by simpa [Nat.blt_eq] using hd
 refine ⟨h.1, by simp [Act.put, h.2.1], fun i u hu => ?_⟩
 show (a.tmps.setIfInBounds d v).getD i undef = u
 unfold look at hu
 cases hb : Nat.beq d i with
 | true =>
  obtain rfl : d = i := Nat.eq_of_beq_eq_true hb
  simp only [hb, cond_true, Option.some.injEq] at hu
  subst hu
  simp [Array.getD, h.2.1, b]
 | false =>
  simp only [hb, cond_false] at hu
  have c : d ≠ i := fun e => by rw [e, Nat.beq_refl] at hb; cases hb
  have := h.2.2 i u hu
  simp only [Array.getD_eq_getD_getElem?] at this ⊢
  rw [Array.getElem?_setIfInBounds_ne c]; exact this
def Agr (f : Fr) (ρ : Operand → Value) : Prop := ∀ x v, evo f x = some v → ρ x = v
theorem Rep.agr {n : Sh} {f : Fr} {a : Act} (h : Rep n f a) : Agr f a.eval := by
 intro x v hx
 cases x with
 | tmp t => exact h.2.2 t v hx
 | const u => exact Option.some.inj hx
 | global g => exact Option.some.inj hx
 | func k => exact Option.some.inj hx
section
variable {P : Program} {n : Sh}
def lift (n : Sh) (Q : Exit → Fr → World → Prop) : Exit → Act → World → Prop := fun e a w => ∃ f, Rep n f a ∧ Q e f w
def W (P : Program) (n : Sh) (c : Code) (Q : Exit → Fr → World → Prop) (f : Fr) (w : World) : Prop := ∀ a, Rep n f a → c.wp P (lift n Q) a w
def WL (P : Program) (n : Sh) (ops : Array Oper) (Q : Exit → Fr → World → Prop) (l : List Oper) (f : Fr) (w : World) : Prop := ∀ a, Rep n f a → wpList P ops (lift n Q) l a w
def nx (K : Fr → World → Prop) (Q : Exit → Fr → World → Prop) : Exit → Fr → World → Prop
 | .normal, f, w => K f w
 | e, f, w => Q e f w
def inb (id : Nat) (Q : Exit → Fr → World → Prop) : Exit → Fr → World → Prop
 | .exit i, f, w => bif Nat.beq i id then Q .normal f w else Q (.exit i) f w
 | e, f, w => Q e f w
theorem W.weaken {c : Code} {Q : Exit → Fr → World → Prop} {f : Fr} {w : World} (g : Fr) (hs : Sub g f) (h : W P n c Q g w) : W P n c Q f w :=
 fun a ha => h a (ha.sub hs)
theorem W.mono {c : Code} {Q Q' : Exit → Fr → World → Prop} {f : Fr} {w : World} (h : W P n c Q f w) (hq : ∀ e f w, Q e f w → Q' e f w) : W P n c Q' f w :=
 fun a ha => wp_mono (h a ha) fun _ _ _ ⟨f', hr, hQ⟩ => ⟨f', hr, hq _ _ _ hQ⟩
theorem W.seq {x y : Code} {Q : Exit → Fr → World → Prop} {f : Fr} {w : World} (h : W P n x (nx (fun f w => W P n y Q f w) Q) f w) : W P n (.seq x y) Q f w := by
 intro a ha
 refine wp_seq (wp_mono (h a ha) ?_)
 rintro e a' w' ⟨f', hr, hQ⟩
 cases e with
 | normal => exact hQ a' hr
 | _ => exact ⟨f', hr, hQ⟩
theorem dT {p : Prop} [Decidable p] (h : decide p = true) : p := of_decide_eq_true h
theorem dF {p : Prop} [Decidable p] (h : decide p = false) : ¬p := of_decide_eq_false h
theorem oO {p : Prop} (h : p := by omega) : p := h
theorem aS {p : Prop} (h : p := by assumption) : p := h
theorem dD {p : Prop} (h : p := by decide) : p := h
theorem kR {p : Prop} (h : p := by kernel_rfl) : p := h
theorem oL {p : Prop} (h : p := by simp only [List.length_append, List.length_cons, List.length_nil, List.length_drop] at *; omega) : p := h
theorem oD {p : Prop} (h : p := by first | decide | exact Nat.le_of_ble_eq_true rfl) : p := h
theorem oM {p : Prop} (h : p := by ((try simp only) <;> omega)) : p := h
abbrev bt_ := @Below.trans
abbrev nt_ := @Nat.le_trans
abbrev nr_ := @Nat.le_refl
abbrev nz_ := @Nat.zero_lt_succ
abbrev br_ := @Below.refl
abbrev nn_ := @Nat.ne_of_lt
abbrev lc_ := @List.cons_ne_nil
abbrev nl_ := @Nat.zero_le
abbrev ab_ := @absurd
abbrev ot_ := @of_decide_eq_true
theorem tT : True := trivial
theorem W.cut {α : Type} (R : α → Fr) (S : α → World → Prop) {x y : Code} {Q : Exit → Fr → World → Prop} {f : Fr} {w : World}
  (h1 : W P n x (nx (fun f' w' => ∃ t, Sub (R t) f' ∧ S t w') Q) f w) (h2 : ∀ t w', S t w' → W P n y Q (R t) w') : W P n (.seq x y) Q f w := by
 refine W.seq (h1.mono ?_)
 intro e f' w' h
 cases e with
 | normal => obtain ⟨t, hs, ht⟩ := h; exact (h2 t w' ht).weaken _ hs
 | _ => exact h
theorem W.skip {Q : Exit → Fr → World → Prop} {f : Fr} {w : World} (h : Q .normal f w) : W P n .skip Q f w := fun _ ha => wp_skip ⟨f, ha, h⟩
abbrev W.k := @W.skip
theorem W.exit {Q : Exit → Fr → World → Prop} {f : Fr} {w : World} {id : Nat} (h : Q (.exit id) f w) : W P n (.exit id) Q f w := fun _ ha => wp_exit ⟨f, ha, h⟩
theorem W.ret {Q : Exit → Fr → World → Prop} {f : Fr} {w : World} (h : Q .ret f w) : W P n .ret Q f w := fun _ ha => wp_ret ⟨f, ha, h⟩
theorem W.block {Q : Exit → Fr → World → Prop} {f : Fr} {w : World} {id : Nat} {c : Code} (h : W P n c (inb id Q) f w) : W P n (.block id c) Q f w := by
 intro a ha
 refine wp_block (wp_mono (h a ha) ?_)
 rintro e a' w' ⟨f', hr, hQ⟩
 cases e with
 | exit i =>
  simp only [Exit.inBlock]
  by_cases hi : i = id
  ·
   subst hi
   rw [if_pos rfl]
   simp only [inb, Nat.beq_refl, cond_true] at hQ
   exact ⟨f', hr, hQ⟩
  ·
   rw [if_neg hi]
   have hb : Nat.beq i id = false := by
    cases h : Nat.beq i id with
    | false => rfl
    | true => exact ab_ (Nat.eq_of_beq_eq_true h) hi
   simp only [inb, hb, cond_false] at hQ
   exact ⟨f', hr, hQ⟩
 | _ => exact ⟨f', hr, hQ⟩
abbrev W.b := @W.block
theorem W.cond {Q : Exit → Fr → World → Prop} {f : Fr} {w : World} {c : Operand} {x y : Code} {t : Bool} (hc : evo f c = some (.bool t))
  (ht : t = true → W P n x Q f w) (hf : t = false → W P n y Q f w) : W P n (.cond c x y) Q f w :=
 fun a ha => wp_cond_split (ha.agr _ _ hc) (fun h => ht h a ha) (fun h => hf h a ha)
theorem W.cnd {P : Program} {n : Sh} {Q : Exit → Fr → World → Prop} {f : Fr} {w : World} {c : Operand} {x y : Code} {p : Prop} [Decidable p] (hc : evo f c = some (.bool (decide p))) (ht : p → W P n x Q f w) (hf : ¬p → W P n y Q f w) : W P n (.cond c x y) Q f w := W.cond hc (fun e => ht (of_decide_eq_true e)) (fun e => hf (of_decide_eq_false e))
theorem W.condT {Q : Exit → Fr → World → Prop} {f : Fr} {w : World} {c : Operand} {x y : Code} {t : Bool} (hc : evo f c = some (.bool t)) (e : t = true)
  (h : W P n x Q f w) : W P n (.cond c x y) Q f w := W.cond hc (fun _ => h) (fun h' => by rw [e] at h'; cases h')
theorem W.condF {Q : Exit → Fr → World → Prop} {f : Fr} {w : World} {c : Operand} {x y : Code} {t : Bool} (hc : evo f c = some (.bool t)) (e : t = false)
  (h : W P n y Q f w) : W P n (.cond c x y) Q f w := W.cond hc (fun h' => by rw [e] at h'; cases h') (fun _ => h)
theorem W.loop {α : Type} (R : α → Fr) (S : α → World → Prop) (m : α → Nat) (t : α) {c : Code} {Q : Exit → Fr → World → Prop} {f : Fr} {w : World}
  (h0 : Sub (R t) f) (h1 : S t w) (round : ∀ t w, S t w → W P n c (nx (fun f' w' => ∃ u, Sub (R u) f' ∧ S u w' ∧ m u < m t) Q) (R t) w) : W P n (.loop c) Q f w := by
 intro a ha b k cs
 have key : ∀ k' t a w, m t = k' → Rep n (R t) a → S t w → ∃ e a' w', lift n Q e a' w' ∧ Arrives P (lone (b.at a (.code c :: .inLoop c :: k)) cs w) b k cs e a' w' := by
  intro k'
  induction k' using Nat.strongRecOn with
  | _ k' ih =>
   intro t a w hm hr hS
   obtain ⟨e, i, j, ⟨f1, g, hq⟩, d⟩ := round t w hS a hr b (.inLoop c :: k) cs
   cases e with
   | normal =>
    obtain ⟨u, hs, q, s⟩ := hq
    obtain ⟨y, A, B, v, o⟩ := ih (m u) (hm ▸ s) u i j rfl (g.sub hs) q
    exact ⟨y, A, B, v, .of_steps (Steps.trans d (.one step_inLoop)) o⟩
   | exit id => exact ⟨_, i, j, ⟨f1, g, hq⟩, .pass (x := .inLoop c) rfl (fun _ _ => .inl (by simp)) d⟩
   | goto l => exact ⟨_, i, j, ⟨f1, g, hq⟩, .pass (x := .inLoop c) rfl (fun _ _ => .inl (by simp)) d⟩
   | ret => exact ⟨_, i, j, ⟨f1, g, hq⟩, .pass (x := .inLoop c) rfl (fun _ _ => .inl (by simp)) d⟩
   | panic ch => exact ⟨_, i, j, ⟨f1, g, hq⟩, .pass (x := .inLoop c) rfl (fun _ _ => .inl (by simp)) d⟩
   | outgrown => exact ⟨_, i, j, ⟨f1, g, hq⟩, .pass (x := .inLoop c) rfl (fun _ _ => .inl (by simp)) d⟩
 obtain ⟨e, a', w', hq, d⟩ := key _ t a w rfl (ha.sub h0) h1
 exact ⟨e, a', w', hq, .of_steps (.one step_loop) d⟩
theorem W.reg {Q : Exit → Fr → World → Prop} {f : Fr} {w : World} {id : Nat} {l : List Oper} (h : WL P n l.toArray Q l f w) : W P n (.region id l.toArray false) Q f w :=
 fun a ha => wp_region_lit (h a ha)
theorem W.sr {P : Program} {n : Sh} {id : Nat} {l : List Oper} {y : Code} {Q : Exit → Fr → World → Prop} {f : Fr} {w : World} (h : WL P n l.toArray (nx (fun f w => W P n y Q f w) Q) l f w) : W P n (.seq (.region id l.toArray false) y) Q f w := W.seq (W.reg h)
def number : Nat → List Value → Fr
 | _, [] => []
 | k, v :: r => (k, v) :: number (k + 1) r
theorem number_look (l : List Value) : ∀ k i v, look (number k l) i = some v → ∃ j, i = k + j ∧ l[j]? = some v := by
 induction l with
 | nil => intro k i v h; cases h
 | cons u r ih =>
  intro k i v h
  unfold number look at h
  cases hb : Nat.beq k i with
  | true =>
   simp only [hb, cond_true, Option.some.injEq] at h
   exact ⟨0, (Nat.eq_of_beq_eq_true hb).symm, by simp [h]⟩
  | false =>
   simp only [hb, cond_false] at h
   obtain ⟨j, e, hj⟩ := ih (k + 1) i v h
   exact ⟨j + 1, by omega, by simpa using hj⟩
def ResOk (P : Program) (fn : Func) (f : Fr) (w : World) (v : Value) : Prop := ∀ tmps : Array Value, (∀ i u, look f i = some u → tmps.getD i undef = u) → (results fn tmps).run P w = .ok v w
def Post (P : Program) (fn : Func) (R : Ending → World → Prop) : Exit → Fr → World → Prop
 | .normal, f, w | .ret, f, w => ∃ v, ResOk P fn f w v ∧ R (.returned v) w
 | .panic chain, _, w => R (.panicked chain) w
 | .outgrown, _, w => R .outgrown w
 | _, _, _ => False
theorem W.enter {F : FuncId} {fn : Func} {c : Code} {args : Array Value} {w : World} {R : Ending → World → Prop} (hf : P.funcs[F]? = some fn) (hb : fn.body = some c)
  {k : Nat} (hn : fn.ntmps = k) (hl : args.size ≤ k) (h : W P ⟨k, []⟩ c (Post P fn R) (number 0 args.toList) w) : Calls P F args w R := by
 refine calls_of_wp hf hb (wp_mono (h _ ⟨rfl, by simp [hn]; omega, ?_⟩) ?_)
 ·
  intro i v hv
  obtain ⟨j, e, hj⟩ := number_look _ _ _ _ hv
  obtain rfl : i = j := by omega
  have d : i < args.size := by
   rcases Nat.lt_or_ge i args.size with h | h
   ·
    exact h
   ·
    rw [List.getElem?_eq_none (by simpa using h)] at hj; cases hj
  have hj' : args[i]? = some v := by rw [← Array.getElem?_toList]; exact hj
  simp only [Array.getD_eq_getD_getElem?]
  rw [Array.getElem?_append_left d, hj']; rfl
 ·
  rintro e a' w' ⟨f', hr, hQ⟩
  cases e with
  | normal => obtain ⟨v, a, b⟩ := hQ; exact ⟨hr.1, v, a _ hr.2.2, b⟩
  | ret => obtain ⟨v, a, b⟩ := hQ; exact ⟨hr.1, v, a _ hr.2.2, b⟩
  | panic ch => exact ⟨hr.1, hQ⟩
  | outgrown => exact hQ
  | exit i => exact hQ.elim
  | goto l => exact hQ.elim
abbrev W.e := @W.enter
theorem W.ret0 {fn : Func} {R : Ending → World → Prop} {f : Fr} {w : World} (hr : fn.results = #[]) (h : R (.returned (.tuple #[])) w) : Post P fn R .ret f w :=
 ⟨_, fun _ _ => results_none hr _ _ _, h⟩
theorem W.ret1 {fn : Func} {R : Ending → World → Prop} {f : Fr} {w : World} {t : Tmp} {v : Value} (hr : fn.results = #[.tmp t]) (hv : look f t = some v)
  (h : R (.returned v) w) : Post P fn R .ret f w :=
 ⟨v, fun tmps ht => by rw [results_tmp hr, ht _ _ hv], h⟩
abbrev W.r1 := @W.ret1
theorem W.ret2 {fn : Func} {R : Ending → World → Prop} {f : Fr} {w : World} {t u : Tmp} {v x : Value} (hr : fn.results = #[.tmp t, .tmp u]) (hv : look f t = some v) (hx : look f u = some x)
  (h : R (.returned (.tuple #[v, x])) w) : Post P fn R .ret f w :=
 ⟨_, fun tmps ht => by rw [results_tmp2 hr, ht _ _ hv, ht _ _ hx], h⟩
theorem W.retc3 {fn : Func} {R : Ending → World → Prop} {f : Fr} {w : World} {t u s : Tmp} {ty : TypeId} {b : Addr} {v x y : Value} (hr : fn.results = #[.cell t ty, .tmp u, .tmp s])
  (ht : look f t = some (.pointer (some b))) (hv : (loadVar ty b).run P w = .ok v w) (hx : look f u = some x) (hy : look f s = some y)
  (h : R (.returned (.tuple #[v, x, y])) w) : Post P fn R .ret f w :=
 ⟨_, fun tmps hh => by
  have e1 := hh _ _ ht; have e2 := hh _ _ hx; have e3 := hh _ _ hy
  simp only [Array.getD_eq_getD_getElem?] at e1 e2 e3
  simp [results, hr, e1, e2, e3, asAddr, hv], h⟩
def Pure (P : Program) (op : Op) (f : Fr) (v : Value) : Prop := ∀ ρ, Agr f ρ → ∀ d ty pos aft g w, (execOp ρ ⟨d, op, ty, pos, aft, g⟩).run P w = .ok (.value v) w
theorem WL.nil {ops : Array Oper} {Q : Exit → Fr → World → Prop} {f : Fr} {w : World} (h : Q .normal f w) : WL P n ops Q [] f w := fun _ ha => wpList_nil ⟨f, ha, h⟩
abbrev WL.e := @WL.nil
theorem WL.run {ops : Array Oper} {Q : Exit → Fr → World → Prop} {f : Fr} {w w' : World} {rest : List Oper} {d ty : Nat} {pos : String} {aft : Array Edge} {op : Op} {v : Value} (hd : Nat.blt d n.n = true)
  (h : ∀ ρ, Agr f ρ → (execOp ρ ⟨some d, op, ty, pos, aft, none⟩).run P w = .ok (.value v) w') (k : WL P n ops Q rest ((d, v) :: f) w') : WL P n ops Q (⟨some d, op, ty, pos, aft, none⟩ :: rest) f w := by
 intro a ha
 refine wpList_plain rfl fun K hK => ?_
 unfold Oper.wp
 rw [h _ ha.agr]
 exact hK _ _ (k _ (ha.put hd v))
theorem WL.act {ops : Array Oper} {Q : Exit → Fr → World → Prop} {f : Fr} {w w' : World} {rest : List Oper} {ty : Nat} {pos : String} {aft : Array Edge} {op : Op}
  (h : ∀ ρ, Agr f ρ → (execOp ρ ⟨none, op, ty, pos, aft, none⟩).run P w = .ok .skip w') (k : WL P n ops Q rest f w') : WL P n ops Q (⟨none, op, ty, pos, aft, none⟩ :: rest) f w := by
 intro a ha
 refine wpList_plain rfl fun K hK => ?_
 unfold Oper.wp
 rw [h _ ha.agr]
 exact hK _ _ (k _ ha)
theorem WL.p {ops : Array Oper} {Q : Exit → Fr → World → Prop} {f : Fr} {w : World} {rest : List Oper} {d ty : Nat} {pos : String} {aft : Array Edge} {op : Op} {v : Value}
  (h : Pure P op f v) (hd : Nat.blt d n.n = true) (k : WL P n ops Q rest ((d, v) :: f) w) : WL P n ops Q (⟨some d, op, ty, pos, aft, none⟩ :: rest) f w :=
 WL.run hd (fun ρ hρ => h ρ hρ _ _ _ _ _ _) k
theorem WL.O {P : Program} {n : Sh} {ops : Array Oper} {Q : Exit → Fr → World → Prop} {f : Fr} {w : World} {rest : List Oper} {d ty : Nat} {pos : String} {aft : Array Edge} {op : Op} {v : Value} (h : Pure P op f v) (k : WL P n ops Q rest ((d, v) :: f) w) (hd : Nat.blt d n.n = true := by rfl) : WL P n ops Q (⟨some d, op, ty, pos, aft, none⟩ :: rest) f w := WL.p h hd k
theorem WL.gd {ops : Array Oper} {Q : Exit → Fr → World → Prop} {f : Fr} {w : World} {rest : List Oper} {d ty : Nat} {pos : String} {aft : Array Edge} {op : Op} {j dj : Nat} {b t : Bool}
    (hj : (ops[j]?).bind (·.dst) = some dj) (ht : look f dj = some (.bool t)) (hd : Nat.blt d n.n = true)
    (hy : t = b → WL P n ops Q (⟨some d, op, ty, pos, aft, none⟩ :: rest) f w) (hn : t = !b → WL P n ops Q rest ((d, undef) :: f) w) :
    WL P n ops Q (⟨some d, op, ty, pos, aft, some (j, b)⟩ :: rest) f w := by
  intro a ha
  have c := ha.2.2 _ _ ht
  have e : yielded ops a.tmps j = some t := by
    unfold yielded
    cases ho : ops[j]? with
    | none => rw [ho] at hj; cases hj
    | some o =>
      rw [ho] at hj
      simp only [Option.bind_some] at hj
      have g : a.tmps[dj]? = some (.bool t) := by
        cases h : a.tmps[dj]? with
        | none => rw [Array.getD_eq_getD_getElem?, h] at c; cases c
        | some v => rw [Array.getD_eq_getD_getElem?, h] at c; exact congrArg some c
      simp [hj, g]
  by_cases hb : t = b
  · have := hy hb a ha
    unfold wpList at this ⊢
    simp only [Region.wanted, e, hb, beq_self_eq_true, if_true] at this ⊢
    exact this
  · have hb' : t = !b := by revert hb; cases t <;> cases b <;> decide
    have := hn hb' _ (ha.put hd undef)
    unfold wpList
    have hw : (some t == some b) = false := by revert hb; cases t <;> cases b <;> decide
    simp only [Region.wanted, e, hw]
    exact this
theorem WL.gdd {P : Program} {n : Sh} {ops : Array Oper} {Q : Exit → Fr → World → Prop} {f : Fr} {w : World} {rest : List Oper} {d ty : Nat} {pos : String} {aft : Array Edge} {op : Op} {j dj : Nat} {b : Bool} {p : Prop} [Decidable p] (hj : (ops[j]?).bind (·.dst) = some dj) (ht : look f dj = some (.bool (decide p))) (hd : Nat.blt d n.n = true) (hy : (match b with | true => p | false => ¬p) → WL P n ops Q (⟨some d, op, ty, pos, aft, none⟩ :: rest) f w) (hn : (match b with | true => ¬p | false => p) → WL P n ops Q rest ((d, undef) :: f) w) : WL P n ops Q (⟨some d, op, ty, pos, aft, some (j, b)⟩ :: rest) f w := WL.gd hj ht hd (fun e => hy (by cases b with | true => exact of_decide_eq_true e | false => exact of_decide_eq_false e)) (fun e => hn (by cases b with | true => exact of_decide_eq_false e | false => exact of_decide_eq_true e))
theorem WL.gy {ops : Array Oper} {Q : Exit → Fr → World → Prop} {f : Fr} {w : World} {rest : List Oper} {d ty : Nat} {pos : String} {aft : Array Edge} {op : Op} {j dj : Nat} {b t : Bool}
  (hj : (ops[j]?).bind (·.dst) = some dj) (ht : look f dj = some (.bool t)) (hd : Nat.blt d n.n = true) (e : t = b)
  (hy : WL P n ops Q (⟨some d, op, ty, pos, aft, none⟩ :: rest) f w) : WL P n ops Q (⟨some d, op, ty, pos, aft, some (j, b)⟩ :: rest) f w :=
 WL.gd hj ht hd (fun _ => hy) (fun h => by rw [e] at h; cases b <;> cases h)
theorem WL.Y {P : Program} {n : Sh} {ops : Array Oper} {Q : Exit → Fr → World → Prop} {f : Fr} {w : World} {rest : List Oper} {d ty : Nat} {pos : String} {aft : Array Edge} {op : Op} {j dj : Nat} {b t : Bool} (e : t = b) (hn : WL P n ops Q (⟨some d, op, ty, pos, aft, none⟩ :: rest) f w) (hj : (ops[j]?).bind (·.dst) = some dj := by rfl) (ht : look f dj = some (.bool t) := by rfl) (hd : Nat.blt d n.n = true := by rfl) : WL P n ops Q (⟨some d, op, ty, pos, aft, some (j, b)⟩ :: rest) f w := WL.gy hj ht hd e hn
theorem WL.gn {ops : Array Oper} {Q : Exit → Fr → World → Prop} {f : Fr} {w : World} {rest : List Oper} {d ty : Nat} {pos : String} {aft : Array Edge} {op : Op} {j dj : Nat} {b t : Bool}
  (hj : (ops[j]?).bind (·.dst) = some dj) (ht : look f dj = some (.bool t)) (hd : Nat.blt d n.n = true) (e : t = !b)
  (hn : WL P n ops Q rest ((d, undef) :: f) w) : WL P n ops Q (⟨some d, op, ty, pos, aft, some (j, b)⟩ :: rest) f w :=
 WL.gd hj ht hd (fun h => by rw [e] at h; cases b <;> cases h) (fun _ => hn)
theorem WL.N {P : Program} {n : Sh} {ops : Array Oper} {Q : Exit → Fr → World → Prop} {f : Fr} {w : World} {rest : List Oper} {d ty : Nat} {pos : String} {aft : Array Edge} {op : Op} {j dj : Nat} {b t : Bool} (e : t = !b) (hn : WL P n ops Q rest ((d, undef) :: f) w) (hj : (ops[j]?).bind (·.dst) = some dj := by rfl) (ht : look f dj = some (.bool t) := by rfl) (hd : Nat.blt d n.n = true := by rfl) : WL P n ops Q (⟨some d, op, ty, pos, aft, some (j, b)⟩ :: rest) f w := WL.gn hj ht hd e hn
end
theorem fbs_toList (l : List UInt8) : (bs l).toList = l := by simp [bs]
theorem fbs_extract (l : List UInt8) (a b : Nat) : (bs l).extract a b = bs ((l.drop a).take (b - a)) := by
 apply ByteArray.ext
 simp [bs, List.extract_eq_take_drop]
theorem beq_dec (l m : List UInt8) : (l == m) = decide (l = m) := by rw [Bool.eq_iff_iff]; simp
theorem i64w {r : Int} (h : -9223372036854775808 ≤ r ∧ r ≤ 9223372036854775807) : IntKind.i64.wrap r = r := by rw [IntKind.wrap_i64]; omega
theorem u8w {r : Int} (h : 0 ≤ r ∧ r ≤ 255) : IntKind.u8.wrap r = r := by rw [IntKind.wrap_u8']; omega
theorem i64q {a b : Int} (h0 : 0 ≤ a) (h1 : a ≤ 9223372036854775807) (hb : 1 ≤ b) : IntKind.i64.wrap (a.tdiv b) = a / b := by
 rw [Int.tdiv_eq_ediv_of_nonneg h0]
 exact i64w ⟨by have := Int.ediv_nonneg h0 (by omega : 0 ≤ b); omega, by have := Int.ediv_le_self b h0; omega⟩
section
variable {P : Program} {n : Sh} {f : Fr}
theorem Pure.mv {x : Operand} {v : Value} (hx : evo f x = some v) : Pure P (.move x) f v := fun ρ hρ d ty pos aft g w => by
 simp [execOp, hρ _ _ hx]
theorem WL.m {P : Program} {n : Sh} {ops : Array Oper} {Q : Exit → Fr → World → Prop} {f : Fr} {w : World} {rest : List Oper} {d ty : Nat} {pos : String} {aft : Array Edge} {x : Operand} {v : Value} (h : evo f x = some v) (hd : Nat.blt d n.n = true) (k : WL P n ops Q rest ((d, v) :: f) w) : WL P n ops Q (⟨some d, .move x, ty, pos, aft, none⟩ :: rest) f w := WL.p (.mv h) hd k
theorem WL.M {P : Program} {n : Sh} {ops : Array Oper} {Q : Exit → Fr → World → Prop} {f : Fr} {w : World} {rest : List Oper} {d ty : Nat} {pos : String} {aft : Array Edge} {x : Operand} {v : Value} (h : evo f x = some v) (k : WL P n ops Q rest ((d, v) :: f) w) (hd : Nat.blt d n.n = true := by rfl) : WL P n ops Q (⟨some d, .move x, ty, pos, aft, none⟩ :: rest) f w := WL.p (.mv h) hd k
theorem Pure.as {x : Operand} {v : Value} (hx : evo f x = some v) : Pure P (.assign x) f v := fun ρ hρ d ty pos aft g w => by
 simp [execOp, hρ _ _ hx]
theorem WL.z {P : Program} {n : Sh} {ops : Array Oper} {Q : Exit → Fr → World → Prop} {f : Fr} {w : World} {d ty : Nat} {pos : String} {aft : Array Edge} {x : Operand} {v : Value} (h : evo f x = some v) (hd : Nat.blt d n.n = true) (k : Q .normal ((d, v) :: f) w) : WL P n ops Q [⟨some d, .assign x, ty, pos, aft, none⟩] f w := WL.p (.as h) hd (WL.nil k)
theorem WL.a {P : Program} {n : Sh} {ops : Array Oper} {Q : Exit → Fr → World → Prop} {f : Fr} {w : World} {rest : List Oper} {d ty : Nat} {pos : String} {aft : Array Edge} {x : Operand} {v : Value} (h : evo f x = some v) (hd : Nat.blt d n.n = true) (k : WL P n ops Q rest ((d, v) :: f) w) : WL P n ops Q (⟨some d, .assign x, ty, pos, aft, none⟩ :: rest) f w := WL.p (.as h) hd k
theorem WL.A {P : Program} {n : Sh} {ops : Array Oper} {Q : Exit → Fr → World → Prop} {f : Fr} {w : World} {rest : List Oper} {d ty : Nat} {pos : String} {aft : Array Edge} {x : Operand} {v : Value} (h : evo f x = some v) (k : WL P n ops Q rest ((d, v) :: f) w) (hd : Nat.blt d n.n = true := by rfl) : WL P n ops Q (⟨some d, .assign x, ty, pos, aft, none⟩ :: rest) f w := WL.p (.as h) hd k
theorem WL.Z {P : Program} {n : Sh} {ops : Array Oper} {Q : Exit → Fr → World → Prop} {f : Fr} {w : World} {d ty : Nat} {pos : String} {aft : Array Edge} {x : Operand} {v : Value} (h : evo f x = some v) (k : Q .normal ((d, v) :: f) w) (hd : Nat.blt d n.n = true := by rfl) : WL P n ops Q [⟨some d, .assign x, ty, pos, aft, none⟩] f w := WL.p (.as h) hd (WL.nil k)
theorem Pure.pick {c x y : Operand} {t : Bool} {v : Value} (hc : evo f c = some (.bool t)) (h1 : t = true → evo f x = some v) (h2 : t = false → evo f y = some v) : Pure P (.pick c x y) f v := fun ρ hρ d ty pos aft g w => by
 cases t
 ·
  simp [execOp, hρ _ _ hc, asBool, hρ _ _ (h2 rfl)]
 ·
  simp [execOp, hρ _ _ hc, asBool, hρ _ _ (h1 rfl)]
theorem Pure.pkT {c x y : Operand} {t : Bool} {v : Value} (hc : evo f c = some (.bool t)) (e : t = true) (h1 : evo f x = some v) : Pure P (.pick c x y) f v :=
 .pick hc (fun _ => h1) (fun h => by rw [e] at h; cases h)
theorem Pure.pkF {c x y : Operand} {t : Bool} {v : Value} (hc : evo f c = some (.bool t)) (e : t = false) (h1 : evo f y = some v) : Pure P (.pick c x y) f v :=
 .pick hc (fun h => by rw [e] at h; cases h) (fun _ => h1)
section ints
variable {x y : Operand} {k : IntKind} {a b r : Int} {tx ty : TypeId}
theorem Pure.add (hx : evo f x = some (.int k a)) (hy : evo f y = some (.int k b)) (hr : k.wrap (a + b) = r) : Pure P (.binOp .add tx x y ty) f (.int k r) := fun ρ hρ d ty pos aft g w => by
 simp [execOp, hρ _ _ hx, hρ _ _ hy, eqGuard, binOp, Op.intArith, hr]
theorem Pure.sub (hx : evo f x = some (.int k a)) (hy : evo f y = some (.int k b)) (hr : k.wrap (a - b) = r) : Pure P (.binOp .sub tx x y ty) f (.int k r) := fun ρ hρ d ty pos aft g w => by
 simp [execOp, hρ _ _ hx, hρ _ _ hy, eqGuard, binOp, Op.intArith, hr]
theorem Pure.mul (hx : evo f x = some (.int k a)) (hy : evo f y = some (.int k b)) (hr : k.wrap (a * b) = r) : Pure P (.binOp .mul tx x y ty) f (.int k r) := fun ρ hρ d ty pos aft g w => by
 simp [execOp, hρ _ _ hx, hρ _ _ hy, eqGuard, binOp, Op.intArith, hr]
theorem Pure.quo (hx : evo f x = some (.int k a)) (hy : evo f y = some (.int k b)) (h0 : b ≠ 0) (hr : k.wrap (a.tdiv b) = r) : Pure P (.binOp .quo tx x y ty) f (.int k r) := fun ρ hρ d ty pos aft g w => by
 simp [execOp, hρ _ _ hx, hρ _ _ hy, eqGuard, binOp, Op.intDiv, h0, hr]
theorem Pure.rem (hx : evo f x = some (.int k a)) (hy : evo f y = some (.int k b)) (h0 : b ≠ 0) (hr : a.tmod b = r) : Pure P (.binOp .rem tx x y ty) f (.int k r) := fun ρ hρ d ty pos aft g w => by
 simp [execOp, hρ _ _ hx, hρ _ _ hy, eqGuard, binOp, Op.intDiv, h0, hr]
theorem Pure.lss (hx : evo f x = some (.int k a)) (hy : evo f y = some (.int k b)) : Pure P (.binOp .lss tx x y ty) f (.bool (decide (a < b))) := fun ρ hρ d ty pos aft g w => by
 simp [execOp, hρ _ _ hx, hρ _ _ hy, eqGuard, binOp, Op.intCmp]
theorem Pure.leq (hx : evo f x = some (.int k a)) (hy : evo f y = some (.int k b)) : Pure P (.binOp .leq tx x y ty) f (.bool (decide (a ≤ b))) := fun ρ hρ d ty pos aft g w => by
 simp [execOp, hρ _ _ hx, hρ _ _ hy, eqGuard, binOp, Op.intCmp]
theorem Pure.gtr (hx : evo f x = some (.int k a)) (hy : evo f y = some (.int k b)) : Pure P (.binOp .gtr tx x y ty) f (.bool (decide (b < a))) := fun ρ hρ d ty pos aft g w => by
 simp [execOp, hρ _ _ hx, hρ _ _ hy, eqGuard, binOp, Op.intCmp]
theorem Pure.geq (hx : evo f x = some (.int k a)) (hy : evo f y = some (.int k b)) : Pure P (.binOp .geq tx x y ty) f (.bool (decide (b ≤ a))) := fun ρ hρ d ty pos aft g w => by
 simp [execOp, hρ _ _ hx, hρ _ _ hy, eqGuard, binOp, Op.intCmp]
theorem Pure.eql (hx : evo f x = some (.int k a)) (hy : evo f y = some (.int k b)) : Pure P (.binOp .eql tx x y ty) f (.bool (decide (a = b))) := fun ρ hρ d ty pos aft g w => by
 simp [execOp, hρ _ _ hx, hρ _ _ hy, eqGuard, binOp, Op.intCmp]; rfl
theorem Pure.neq (hx : evo f x = some (.int k a)) (hy : evo f y = some (.int k b)) : Pure P (.binOp .neq tx x y ty) f (.bool (!decide (a = b))) := fun ρ hρ d ty pos aft g w => by
 simp [execOp, hρ _ _ hx, hρ _ _ hy, eqGuard, binOp, Op.intCmp]; rfl
theorem Pure.not {t : Bool} (hx : evo f x = some (.bool t)) : Pure P (.unOp .not tx x) f (.bool (!t)) := fun ρ hρ d ty pos aft g w => by
 simp [execOp, hρ _ _ hx, Op.unary]
theorem Pure.cvt {k' k0 : IntKind} (hs : P.underlying tx = some (.int k0)) (ht : P.underlying ty = some (.int k')) (hx : evo f x = some (.int k a)) (hr : k'.wrap a = r) : Pure P (.convert tx ty x) f (.int k' r) := fun ρ hρ d ty' pos aft g w => by
 simp [execOp, hρ _ _ hx, convert, run_underlying hs, run_underlying ht, Conv.intToInt, hr]
theorem Pure.eqb {s t : Bool} (hu : P.underlying tx = some .bool) (hx : evo f x = some (.bool s)) (hy : evo f y = some (.bool t)) : Pure P (.binOp .eql tx x y ty) f (.bool (decide (s = t))) := fun ρ hρ d ty pos aft g w => by
 have h := run_eql_bool w tx s t hu
 simp only [execOp, hρ _ _ hx, hρ _ _ hy, Sem.run_bind]
 have hg : (eqGuard .eql tx x y (.bool s) (.bool t)).run P w = .ok () w := by simp [eqGuard]
 simp only [hg, Result.andThen_ok, h]
 cases s <;> cases t <;> rfl
end ints
section strings
variable {x y : Operand} {l m : List UInt8} {tx ty : TypeId}
theorem Pure.len {at' : TypeId} (hu : P.underlying at' = some .string) (hx : evo f x = some (.string (bs l))) : Pure P (.call ⟨.builtin .len, #[x], #[at']⟩) f (.int .i64 (l.length : Int)) := fun ρ hρ d ty pos aft g w => by
 simp [execOp, resolve, invoke, builtin, Builtin.len_, run_underlying hu, hρ _ _ hx, goInt, bs_size]
theorem Pure.ix {i : Int} (hu : P.underlying tx = some .string) (hx : evo f x = some (.string (bs l))) (hi : evo f y = some (.int .i64 i)) (k : Nat) (e : i = k) (hk : k < l.length) : Pure P (.index tx x y) f (.int .u8 (l[k].toNat : Int)) := fun ρ hρ d ty pos aft g w => by
 subst e
 have h1 : (bs l)[k]? = some l[k] := by
  have : k < (bs l).size := by rw [bs_size]; exact hk
  rw [getElem?_pos (bs l) k this]; rfl
 simp [execOp, Instr.index, hρ _ _ hx, hρ _ _ hi, asIntOf, run_underlying hu, h1]
theorem Pure.eqs (hx : evo f x = some (.string (bs l))) (hy : evo f y = some (.string (bs m))) : Pure P (.binOp .eql tx x y ty) f (.bool (decide (l = m))) := fun ρ hρ d ty pos aft g w => by
 simp [execOp, hρ _ _ hx, hρ _ _ hy, eqGuard, binOp, Op.stringOp, fbs_toList, beq_dec]
theorem Pure.nes (hx : evo f x = some (.string (bs l))) (hy : evo f y = some (.string (bs m))) : Pure P (.binOp .neq tx x y ty) f (.bool (!decide (l = m))) := fun ρ hρ d ty pos aft g w => by
 simp [execOp, hρ _ _ hx, hρ _ _ hy, eqGuard, binOp, Op.stringOp, fbs_toList, beq_dec]
theorem Pure.ext {i : Nat} {vs : Array Value} {v : Value} (hx : evo f x = some (.tuple vs)) (hv : vs[i]? = some v) : Pure P (.extract x i) f v := fun ρ hρ d ty pos aft g w => by
 simp [execOp, hρ _ _ hx, Instr.extract, hv]
end strings
def HasBody (P : Program) (F : FuncId) : Prop := ∃ fn, P.funcs[F]? = some fn ∧ fn.body ≠ none ∧ fn.name ≠ "runtime.NumGoroutine"
theorem hasBody {F : FuncId} {fn : Func} (hf : P.funcs[F]? = some fn) (hb : (fn.body.isNone || fn.name == "runtime.NumGoroutine") = false) : HasBody P F := by
 simp only [Bool.or_eq_false_iff] at hb
 exact ⟨fn, hf, fun h => by rw [h] at hb; exact ab_ hb.1 dD, fun h => by rw [h] at hb; exact ab_ hb.2 dD⟩
def evs (f : Fr) : List Operand → Option (List Value)
 | [] => some []
 | x :: r => match evo f x, evs f r with
  | some v, some vs => some (v :: vs)
  | _, _ => none
theorem evs_map {ρ : Operand → Value} (hρ : Agr f ρ) : ∀ (xs : List Operand) (vs : List Value), evs f xs = some vs → xs.map ρ = vs
 | [], vs, h => by simp only [evs, Option.some.injEq] at h; subst h; rfl
 | x :: r, vs, h => by
  unfold evs at h
  cases hx : evo f x with
  | none => rw [hx] at h; cases h
  | some v =>
   cases hr : evs f r with
   | none => rw [hx, hr] at h; cases h
   | some us =>
    rw [hx, hr] at h
    simp only [Option.some.injEq] at h
    subst h
    simp [hρ _ _ hx, evs_map hρ r us hr]
theorem run_callOp {F : FuncId} (hb : HasBody P F) {ρ : Operand → Value} (hρ : Agr f ρ) {xs : List Operand} {vs : List Value} (hx : evs f xs = some vs) {ats : Array TypeId} (d : Option Tmp) (ty : TypeId) (pos : String) (aft : Array Edge) (g : Option (Nat × Bool)) (w : World) :
  (execOp ρ ⟨d, .call ⟨.value (.func F), xs.toArray, ats⟩, ty, pos, aft, g⟩).run P w = .ok (.enter F vs.toArray) w := by
 obtain ⟨fn, c, i, j⟩ := hb
 have e := evs_map hρ _ _ hx
 have b : ρ (.func F) = .func (.func F) #[] #[] := hρ _ _ rfl
 have a : xs.toArray.map ρ = vs.toArray := by simp [e]
 unfold execOp
 simp only [resolve, a, b]
 simp [Deferred.ofValue, invoke, callFunc, run_program, c, i, j]
theorem WL.call {ops : Array Oper} {Q : Exit → Fr → World → Prop} {w : World} {rest : List Oper} {d ty : Nat} {pos : String} {aft : Array Edge} {F : FuncId} {xs : List Operand} {ats : Array TypeId} {vs : List Value} {α : Sort _}
  {V : α → Value} {S : α → World → Prop} (hb : HasBody P F) (hx : evs f xs = some vs) (hd : Nat.blt d n.n = true)
  (hc : Calls P F vs.toArray w fun e w' => ∃ t, e = .returned (V t) ∧ S t w') (k : ∀ t w', S t w' → WL P n ops Q rest ((d, V t) :: f) w') :
  WL P n ops Q (⟨some d, .call ⟨.value (.func F), xs.toArray, ats⟩, ty, pos, aft, none⟩ :: rest) f w := by
 intro a ha
 refine wpList_plain rfl fun K hK => ?_
 unfold Oper.wp
 rw [run_callOp hb ha.agr hx, Oper.upon_enter]
 refine hc.mono ?_
 rintro e w' ⟨t, rfl, hS⟩
 exact hK _ _ (k t w' hS _ (ha.put hd _))
theorem WL.cp {ops : Array Oper} {Q : Exit → Fr → World → Prop} {w : World} {rest : List Oper} {d : Option Tmp} {ty : Nat} {pos : String} {aft : Array Edge} {F : FuncId} {xs : List Operand} {ats : Array TypeId} {vs : List Value}
  {ch : List PanicEntry} {S : World → Prop} (hb : HasBody P F) (hx : evs f xs = some vs)
  (hc : Calls P F vs.toArray w fun e w' => e = .panicked ch ∧ S w') (k : ∀ w', S w' → Q (.panic ch) f w') :
  WL P n ops Q (⟨d, .call ⟨.value (.func F), xs.toArray, ats⟩, ty, pos, aft, none⟩ :: rest) f w := by
 intro a ha
 refine wpList_plain rfl fun K hK => ?_
 unfold Oper.wp
 rw [run_callOp hb ha.agr hx, Oper.upon_enter]
 refine hc.mono ?_
 rintro e w' ⟨rfl, hS⟩
 exact ⟨f, ha, k w' hS⟩
theorem WL.pn {ops : Array Oper} {Q : Exit → Fr → World → Prop} {w : World} {rest : List Oper} {d : Option Tmp} {ty : Nat} {pos : String} {aft : Array Edge} {op : Op} {v : Value}
  (h : ∀ ρ, Agr f ρ → (execOp ρ ⟨d, op, ty, pos, aft, none⟩).run P w = .halt (.panic v) w) (k : Q (.panic [{ v, recovered := false }]) f w) :
  WL P n ops Q (⟨d, op, ty, pos, aft, none⟩ :: rest) f w := by
 intro a ha
 refine wpList_plain rfl fun K hK => ?_
 unfold Oper.wp
 rw [h _ ha.agr, Oper.upon_panic]
 exact ⟨f, ha, k⟩
theorem WL.c1 {ops : Array Oper} {Q : Exit → Fr → World → Prop} {w : World} {rest : List Oper} {d ty : Nat} {pos : String} {aft : Array Edge} {F : FuncId} {xs : List Operand} {ats : Array TypeId} {vs : List Value}
  {V : Value} {S : World → Prop} (hb : HasBody P F) (hx : evs f xs = some vs) (hd : Nat.blt d n.n = true)
  (hc : Calls P F vs.toArray w fun e w' => e = .returned V ∧ S w') (k : ∀ w', S w' → WL P n ops Q rest ((d, V) :: f) w') :
  WL P n ops Q (⟨some d, .call ⟨.value (.func F), xs.toArray, ats⟩, ty, pos, aft, none⟩ :: rest) f w :=
 WL.call (α := Unit) (V := fun _ => V) (S := fun _ => S) hb hx hd (hc.mono fun _ _ h => ⟨(), h⟩) (fun _ => k)
def Blk (w : World) (b : Nat) (cs : Array Value) (t : TypeId) : Prop := w.heap[b]? = some (.cells cs t (0, 0))
structure Upd (b : Nat) (w w1 : World) : Prop where
 os : w1.os = w.os
 tape : w1.tape = w.tape
 output : w1.output = w.output
 size : w.heap.size ≤ w1.heap.size
 other : ∀ k, k ≠ b → w1.heap[k]? = w.heap[k]?
theorem Blk.lt {w : World} {b : Nat} {cs : Array Value} {t : TypeId} (h : Blk w b cs t) : b < w.heap.size := (Array.getElem?_eq_some_iff.1 h).1
theorem Upd.below {B b : Nat} {w0 w w1 : World} (hb : Below B w0 w) (hB : B ≤ b) (h : Upd b w w1) : Below B w0 w1 :=
 ⟨h.os.trans hb.os, h.tape.trans hb.tape, h.output.trans hb.output, nt_ hb.size h.size, fun k hk => (h.other k oO).trans (hb.block k hk)⟩
theorem uB {b : Nat} {a w w1 : World} (h : Below a.heap.size a w) (e : b = w.heap.size) (u : Upd b w w1) : Below a.heap.size a w1 := Upd.below h (e ▸ h.size) u
abbrev ub_ := @Upd.below
theorem Blk.upd {w w1 : World} {b c : Nat} {cs : Array Value} {t : TypeId} (h : Blk w c cs t) (hu : Upd b w w1) (hne : c ≠ b) : Blk w1 c cs t := (hu.other c hne).trans h
theorem Blk.up {w w1 : World} {b c : Nat} {cs : Array Value} {t : TypeId} (h : Blk w c cs t) (hu : Upd b w w1) (hne : c ≠ b := by ((try simp only) <;> omega)) : Blk w1 c cs t := h.upd hu hne
theorem bge {a b c : Nat} (e : b = c) (h : a ≤ c) : a ≤ b := e ▸ h
theorem bgl {a b c : Nat} (e : b = c) (h : a < c) : a < b := e ▸ h
theorem Blk.un {w w1 : World} {b c : Nat} {cs : Array Value} {t : TypeId} (h : Blk w c cs t) (hu : Upd b w w1) (hl : c < b) : Blk w1 c cs t := h.upd hu (Nat.ne_of_lt hl)
theorem bL {a b : Nat} (h : Nat.ble a b = true := by rfl) : a ≤ b := Nat.le_of_ble_eq_true h
theorem Blk.below {w w1 : World} {B c : Nat} {cs : Array Value} {t : TypeId} (h : Blk w c cs t) (hb : Below B w w1) (hc : c < B) : Blk w1 c cs t := (hb.block c hc).trans h
theorem Blk.bl {w w1 : World} {c : Nat} {cs : Array Value} {t : TypeId} (h : Blk w c cs t) (hb : Below w.heap.size w w1) : Blk w1 c cs t := h.below hb h.lt
theorem Upd.alloc (w : World) (o : Obj) : Upd w.heap.size w (w.alloc o) := ⟨rfl, rfl, rfl, by simp, fun k hk => by
 show (w.heap.push o)[k]? = _
 rw [Array.getElem?_push, if_neg hk]⟩
theorem Upd.setRow (w : World) (b : Nat) (cs : Array Value) : Upd b w (w.setRow b cs) := ⟨rfl, rfl, rfl, by simp [World.setRow], fun k hk => by
 simp only [World.setRow, Array.getElem?_modify]
 rw [if_neg oO]⟩
theorem Upd.setCell (w : World) (b o : Nat) (v : Value) : Upd b w (w.setCell ⟨b, o, none⟩ v) := ⟨rfl, rfl, rfl, by simp [World.setCell], fun k hk => by
 simp only [World.setCell, Array.getElem?_modify]
 rw [if_neg oO]⟩
theorem Blk.alloc (w : World) (cs : Array Value) (t : TypeId) : Blk (w.alloc (.cells cs t)) w.heap.size cs t := by
 show (w.heap.push _)[w.heap.size]? = _
 simp
theorem Blk.setCell {w : World} {b : Nat} {cs : Array Value} {t : TypeId} (h : Blk w b cs t) (o : Nat) (v : Value) : Blk (w.setCell ⟨b, o, none⟩ v) b (cs.setIfInBounds o v) t := by
 unfold Blk at *
 simp [World.setCell, Array.getElem?_modify, h]
theorem Blk.cell {w : World} {b : Nat} {cs : Array Value} {t : TypeId} (h : Blk w b cs t) (o : Nat) : w.cell? ⟨b, o, none⟩ = cs[o]? := cell_of_row w b o cs t (0, 0) h
theorem Blk.free {w : World} {b : Nat} {cs : Array Value} {t : TypeId} (h : Blk w b cs t) (o : Nat) : w.frozen? ⟨b, o, none⟩ = false := by
 unfold Blk at h
 simp [World.frozen?, h]
section mem
variable {ops : Array Oper} {Q : Exit → Fr → World → Prop} {w : World} {rest : List Oper} {d ty : Nat} {pos : String} {aft : Array Edge}
theorem WL.alloc {t : TypeId} {z : Value} (hz : ∀ w, (zeroValue t).run P w = .ok z w) (hd : Nat.blt d n.n = true)
  (k : ∀ b w1, b = w.heap.size → Blk w1 b z.cells t → Upd b w w1 → w1.heap.size = b + 1 → WL P n ops Q rest ((d, .pointer (some ⟨b, 0, none⟩)) :: f) w1) :
  WL P n ops Q (⟨some d, .alloc t, ty, pos, aft, none⟩ :: rest) f w :=
 WL.run hd (w' := w.alloc (.cells z.cells t)) (v := .pointer (some ⟨w.heap.size, 0, none⟩)) (fun ρ hρ => by
  simp [execOp, Instr.alloc, hz, newVar, newRow]) (k _ _ rfl (Blk.alloc _ _ _) (Upd.alloc _ _) (by simp))
abbrev WL.al := @WL.alloc
theorem WL.box {t : TypeId} {x : Operand} {v : Value} (hx : evo f x = some v) (hd : Nat.blt d n.n = true)
  (k : ∀ b w1, b = w.heap.size → Blk w1 b v.cells t → Upd b w w1 → w1.heap.size = b + 1 → WL P n ops Q rest ((d, .pointer (some ⟨b, 0, none⟩)) :: f) w1) :
  WL P n ops Q (⟨some d, .box t x, ty, pos, aft, none⟩ :: rest) f w :=
 WL.run hd (w' := w.alloc (.cells v.cells t)) (v := .pointer (some ⟨w.heap.size, 0, none⟩)) (fun ρ hρ => by
  simp [execOp, Instr.box, hρ _ _ hx, newVar, newRow]) (k _ _ rfl (Blk.alloc _ _ _) (Upd.alloc _ _) (by simp))
theorem WL.stA {t tb : TypeId} {x y : Operand} {b : Nat} {old cs : Array Value} (hx : evo f x = some (.pointer (some ⟨b, 0, none⟩))) (hy : evo f y = some (.agg cs)) (hb : Blk w b old tb)
  (hi : (P.info? t).map (·.size) = some cs.size) (ho : old.size = cs.size) (h1 : cs.all (·.oneCell') = true)
  (k : ∀ w1, Blk w1 b cs tb → Upd b w w1 → w1.heap.size = w.heap.size → WL P n ops Q rest f w1) :
  WL P n ops Q (⟨none, .store t x y, ty, pos, aft, none⟩ :: rest) f w :=
 WL.act (w' := w.setRow b cs) (fun ρ hρ => by
  unfold execOp
  simp only [hρ _ _ hx, hρ _ _ hy, Instr.storeAt, Instr.sureAddr, Sem.run_bind, Sem.run_pure, Result.andThen_ok, run_storeVar_row w b tb t old cs hb hi ho h1])
  (k _ (setRow_heap w b old cs tb (0, 0) hb) (Upd.setRow _ _ _) (by simp [World.setRow]))
theorem WL.ldA {t tb : TypeId} {x : Operand} {b : Nat} {cs : Array Value} {dd : TypeDesc} (hx : evo f x = some (.pointer (some ⟨b, 0, none⟩))) (hb : Blk w b cs tb)
  (hu : P.underlying t = some dd) (hdd : (match dd with | .struct _ | .array _ _ => true | _ => false) = true) (hi : (P.info? t).map (·.size) = some cs.size) (hd : Nat.blt d n.n = true)
  (k : WL P n ops Q rest ((d, .agg cs) :: f) w) : WL P n ops Q (⟨some d, .load t x, ty, pos, aft, none⟩ :: rest) f w :=
 WL.run hd (fun ρ hρ => by
  unfold execOp
  simp only [hρ _ _ hx, Instr.loadAt, Instr.sureAddr, Sem.run_bind, Sem.run_pure, Result.andThen_ok, run_loadVar_row w b tb t cs (0, 0) dd hb hu hdd hi]) k
theorem Pure.build {t : TypeId} {ps : List (Nat × Operand)} {vs : List Value} {cs : Array Value} (hx : evs f (ps.map (·.2)) = some vs) (hb : P.built t ((ps.map (·.1)).zip vs) = some cs) : Pure P (.build t ps.toArray) f (.agg cs) := fun ρ hρ d ty pos aft g w => by
 have e := evs_map hρ _ _ hx
 have e2 : (ps.toArray.map fun (i, x) => (i, ρ x)).toList = (ps.map (·.1)).zip vs := by
  rw [← e]
  simp only [List.map_map, Array.toList_map]
  clear hx hb e
  induction ps with
  | nil => rfl
  | cons p r ih => simpa using ih
 unfold execOp
 simp only [Sem.run_bind, run_build w t _ cs (by rw [e2]; exact hb), Result.andThen_ok, Sem.run_pure]
end mem
end
section
variable {P : Program} {n : Sh} {f : Fr}
def Rd (P : Program) (op : Op) (f : Fr) (w : World) (v : Value) : Prop := ∀ ρ, Agr f ρ → ∀ d ty pos aft g, (execOp ρ ⟨d, op, ty, pos, aft, g⟩).run P w = .ok (.value v) w
theorem Pure.rd {op : Op} {v : Value} {w : World} (h : Pure P op f v) : Rd P op f w v := fun ρ hρ d ty pos aft g => h ρ hρ d ty pos aft g w
theorem Rd.ld {t tb : TypeId} {x : Operand} {b o : Nat} {cs : Array Value} {v : Value} {w : World} (ha : (isAgg t).run P w = .ok false w) (hx : evo f x = some (.pointer (some ⟨b, o, none⟩))) (hb : Blk w b cs tb) (hv : cs[o]? = some v) :
  Rd P (.load t x) f w v := fun ρ hρ d ty pos aft g => by
 have hc := (hb.cell o).trans hv
 simp [execOp, hρ _ _ hx, Instr.loadAt, Instr.sureAddr, loadVar, ha, hc]
theorem Rd.ldc {t : TypeId} {x : Operand} {p : Addr} {v : Value} {w : World} (ha : (isAgg t).run P w = .ok false w) (hx : evo f x = some (.pointer (some p))) (hv : w.cell? p = some v) :
  Rd P (.load t x) f w v := fun ρ hρ d ty pos aft g => by
 simp [execOp, hρ _ _ hx, Instr.loadAt, Instr.sureAddr, loadVar, ha, hv]
theorem Rd.ldA {t tb : TypeId} {x : Operand} {b : Nat} {cs : Array Value} {dd : TypeDesc} {w : World} (hx : evo f x = some (.pointer (some ⟨b, 0, none⟩))) (hb : Blk w b cs tb)
  (hu : P.underlying t = some dd) (hdd : (match dd with | .struct _ | .array _ _ => true | _ => false) = true) (hi : (P.info? t).map (·.size) = some cs.size) : Rd P (.load t x) f w (.agg cs) := fun ρ hρ d ty pos aft g => by
 unfold execOp
 simp only [hρ _ _ hx, Instr.loadAt, Instr.sureAddr, Sem.run_bind, Sem.run_pure, Result.andThen_ok, run_loadVar_row w b tb t cs (0, 0) dd hb hu hdd hi]
theorem Pure.lenS {at' e : TypeId} {x : Operand} {p : Option Addr} {l c : Nat} (hu : P.underlying at' = some (.slice e)) (hx : evo f x = some (.slice p l c)) : Pure P (.call ⟨.builtin .len, #[x], #[at']⟩) f (.int .i64 (l : Int)) := fun ρ hρ d ty pos aft g w => by
 simp [execOp, resolve, invoke, builtin, Builtin.len_, run_underlying hu, hρ _ _ hx, goInt]
theorem Pure.ixa {tx e : TypeId} {x y : Operand} {p : Addr} {l c sz : Nat} {i : Int} {k : IntKind} (hu : P.underlying tx = some (.slice e)) (hs : ∀ w, (sizeOf e).run P w = .ok sz w) (hx : evo f x = some (.slice (some p) l c))
  (hi : evo f y = some (.int k i)) (j : Nat) (e' : i = j) (hj : j < l) : Pure P (.indexAddr tx x y) f (.pointer (some (p.add (j * sz)))) := fun ρ hρ d ty pos aft g w => by
 subst e'
 simp [execOp, Instr.indexAt, hρ _ _ hx, hρ _ _ hi, asIntOf, run_underlying hu, hs, hj]
theorem Pure.fa {s : TypeId} {x : Operand} {p : Addr} {i : Nat} {fs : Array Field} {fd : Field} {sz : Nat} (hu : P.underlying s = some (.struct fs)) (hf : fs[i]? = some fd) (hs : ∀ w, (sizeOf fd.type).run P w = .ok sz w) (h0 : sz ≠ 0)
  (hx : evo f x = some (.pointer (some p))) : Pure P (.fieldAddr s x i) f (.pointer (some (p.add fd.offset))) := fun ρ hρ d ty pos aft g w => by
 simp [execOp, Instr.fieldAt, hρ _ _ hx, run_underlying hu, hf, Instr.sureAddr, fieldPlace, hs, h0]
theorem Pure.nck {x : Operand} {p : Addr} (hx : evo f x = some (.pointer (some p))) : Pure P (.nilCheck x) f (.pointer (some p)) := fun ρ hρ d ty pos aft g w => by
 simp [execOp, hρ _ _ hx]
theorem WL.r {ops : Array Oper} {Q : Exit → Fr → World → Prop} {w : World} {rest : List Oper} {d ty : Nat} {pos : String} {aft : Array Edge} {op : Op} {v : Value}
  (h : Rd P op f w v) (hd : Nat.blt d n.n = true) (k : WL P n ops Q rest ((d, v) :: f) w) : WL P n ops Q (⟨some d, op, ty, pos, aft, none⟩ :: rest) f w :=
 WL.run hd (fun ρ hρ => h ρ hρ _ _ _ _ _) k
theorem WL.R {P : Program} {n : Sh} {ops : Array Oper} {Q : Exit → Fr → World → Prop} {f : Fr} {w : World} {rest : List Oper} {d ty : Nat} {pos : String} {aft : Array Edge} {op : Op} {v : Value} (h : Rd P op f w v) (k : WL P n ops Q rest ((d, v) :: f) w) (hd : Nat.blt d n.n = true := by rfl) : WL P n ops Q (⟨some d, op, ty, pos, aft, none⟩ :: rest) f w := WL.r h hd k
theorem WL.st {ops : Array Oper} {Q : Exit → Fr → World → Prop} {w : World} {rest : List Oper} {ty : Nat} {pos : String} {aft : Array Edge} {t tb : TypeId} {x y : Operand} {b o : Nat} {cs : Array Value} {v : Value}
  (hs : ∀ w, (sizeOf t).run P w = .ok 1 w) (hx : evo f x = some (.pointer (some ⟨b, o, none⟩))) (hy : evo f y = some v) (h1 : v.oneCell' = true) (hb : Blk w b cs tb) (ho : o < cs.size)
  (k : ∀ w1, Blk w1 b (cs.setIfInBounds o v) tb → Upd b w w1 → w1.heap.size = w.heap.size → WL P n ops Q rest f w1) : WL P n ops Q (⟨none, .store t x y, ty, pos, aft, none⟩ :: rest) f w :=
 WL.act (w' := w.setCell ⟨b, o, none⟩ v) (fun ρ hρ => by
  have hc : w.cell? ⟨b, o, none⟩ = some cs[o] := by rw [hb.cell o]; simp [ho]
  have hf := hb.free o
  have a := run_store P w ⟨b, o, none⟩ v .plain h1
  have c : v.cells = #[v] := by cases v <;> first | rfl | cases h1
  have d : (⟨b, o, none⟩ : Addr).add 0 = ⟨b, o, none⟩ := by simp [Addr.add]
  simp [execOp, hρ _ _ hx, hρ _ _ hy, Instr.storeAt, Instr.sureAddr, storeVar, c, hs, storeCells, d, a, hc, hf])
  (k _ (hb.setCell o v) (Upd.setCell w b o v) (by simp [World.setCell]))
theorem yielded_undef {a : Act} {ops : Array Oper} {j dj : Nat} (ha : Rep n f a) (hj : (ops[j]?).bind (·.dst) = some dj) (ht : look f dj = some undef) : yielded ops a.tmps j = none := by
 have b := ha.2.2 _ _ ht
 unfold yielded
 cases ho : ops[j]? with
 | none => rw [ho] at hj; cases hj
 | some o =>
  rw [ho] at hj
  simp only [Option.bind_some] at hj
  cases h : a.tmps[dj]? with
  | none => simp [hj, h]
  | some v =>
   rw [Array.getD_eq_getD_getElem?, h] at b
   simp only [Option.getD_some] at b
   subst b
   simp [hj, h, undef]
theorem WL.gu {ops : Array Oper} {Q : Exit → Fr → World → Prop} {w : World} {rest : List Oper} {d ty : Nat} {pos : String} {aft : Array Edge} {op : Op} {j dj : Nat} {b : Bool}
  (hj : (ops[j]?).bind (·.dst) = some dj) (ht : look f dj = some undef) (hd : Nat.blt d n.n = true)
  (hn : WL P n ops Q rest ((d, undef) :: f) w) : WL P n ops Q (⟨some d, op, ty, pos, aft, some (j, b)⟩ :: rest) f w := by
 intro a ha
 have c := yielded_undef ha hj ht
 have := hn _ (ha.put hd undef)
 unfold wpList
 simp only [Region.wanted, c]
 exact this
theorem WL.U {P : Program} {n : Sh} {ops : Array Oper} {Q : Exit → Fr → World → Prop} {f : Fr} {w : World} {rest : List Oper} {d ty : Nat} {pos : String} {aft : Array Edge} {op : Op} {j dj : Nat} {b : Bool} (hn : WL P n ops Q rest ((d, undef) :: f) w) (hj : (ops[j]?).bind (·.dst) = some dj := by rfl) (ht : look f dj = some undef := by rfl) (hd : Nat.blt d n.n = true := by rfl) : WL P n ops Q (⟨some d, op, ty, pos, aft, some (j, b)⟩ :: rest) f w := WL.gu hj ht hd hn
def Le (g f : Fr) : Prop := ∀ i v, look g i = some v → look f i = some v
theorem Le.refl (f : Fr) : Le f f := fun _ _ h => h
theorem Le.cons {g f : Fr} {d : Nat} {v : Value} (hd : look g d = none) (h : Le g f) : Le g ((d, v) :: f) := by
 intro i u hu
 unfold look
 cases hb : Nat.beq d i with
 | true =>
  obtain rfl : d = i := Nat.eq_of_beq_eq_true hb
  rw [hd] at hu; cases hu
 | false => exact h i u hu
theorem Le.put {g f : Fr} (h : Le g f) {d : Nat} {v : Value} (hd : look f d = some v) : Le ((d, v) :: g) f := by
 intro i u hu
 unfold look at hu
 cases hb : Nat.beq d i with
 | true =>
  rw [hb] at hu
  obtain rfl : d = i := Nat.eq_of_beq_eq_true hb
  rw [hd]; exact hu
 | false => rw [hb] at hu; exact h i u hu
theorem W.cutB {x y : Code} {Q : Exit → Fr → World → Prop} {w : World} (c : Nat) (T : Bool)
  (h1 : W P n x (nx (fun f' w' => (look f' c = some (.bool T) ∧ Le f f') ∧ w' = w) Q) f w) (h2 : W P n y Q ((c, .bool T) :: f) w) : W P n (.seq x y) Q f w := by
 refine W.seq (h1.mono ?_)
 intro e f' w' h
 cases e with
 | normal =>
  obtain ⟨⟨hc, b⟩, rfl⟩ := h; exact fun a ha => h2 a ⟨ha.1, ha.2.1, fun i v hv => ha.2.2 i v (b.put hc i v hv)⟩
 | _ => exact h
theorem ndT {p : Prop} [Decidable p] (h : (!decide p) = true) : ¬ p := by simpa using h
theorem ndF {p : Prop} [Decidable p] (h : (!decide p) = false) : p := by simpa using h
theorem nT {t : Bool} (h : (!t) = true) : t = false := by simpa using h
theorem nF {t : Bool} (h : (!t) = false) : t = true := by simpa using h
theorem lk_b {f : Fr} {i : Nat} {s t : Bool} (h : look f i = some (.bool s)) (e : s = t) : look f i = some (.bool t) := by rw [h, e]
theorem leF {f g : Fr} {c : Nat} {s t : Bool} (h : look g c = some (.bool s)) (e : s = t := by first | (simp; omega) | (exfalso; simp_all; omega) | (exfalso; omega)) (k : Le f g := by repeat (first | exact Le.refl _ | refine Le.cons rfl ?_)) : look g c = some (.bool t) ∧ Le f g := ⟨lk_b h e, k⟩
theorem leE {f g : Fr} {c : Nat} {t : Bool} (h : look g c = some (.bool t)) (k : Le f g := by repeat (first | exact Le.refl _ | refine Le.cons rfl ?_)) : look g c = some (.bool t) ∧ Le f g := ⟨h, k⟩
theorem lk_i {f : Fr} {i : Nat} {k : IntKind} {s t : Int} (h : look f i = some (.int k s)) (e : s = t) : look f i = some (.int k t) := by rw [h, e]
def Drew (w w1 : World) : Prop := ∃ m, w1 = w.drewN m
theorem Drew.trans {a b c : World} (h : Drew a b) (k : Drew b c) : Drew a c := by
 obtain ⟨m, rfl⟩ := h; obtain ⟨j, rfl⟩ := k; exact ⟨m + j, by rw [World.drewN_drewN]⟩
theorem Drew.below {B : Nat} {w0 w w1 : World} (h : Below B w0 w) (d : Drew w w1) : Below B w0 w1 := by
 obtain ⟨m, rfl⟩ := d; exact ⟨h.os, h.tape, h.output, h.size, h.block⟩
theorem Drew.size {w w1 : World} (d : Drew w w1) : w1.heap.size = w.heap.size := by obtain ⟨m, rfl⟩ := d; rfl
theorem Blk.drew {w w1 : World} {b : Nat} {cs : Array Value} {t : TypeId} (h : Blk w b cs t) (d : Drew w w1) : Blk w1 b cs t := by obtain ⟨m, rfl⟩ := d; exact h
def WS (P : Program) (n : Sh) (ops : Array Oper) (Q : Exit → Fr → World → Prop) (tail : List Oper) (w : World) (l : List Oper) (f : Fr) : Prop :=
 ∀ a, Rep n f a → wpStill P ops w (fun a' => wpList P ops (lift n Q) tail a' w) l a
theorem W.cutBQ {x y : Code} {Q : Exit → Fr → World → Prop} {w : World} (c : Nat) (T : Bool)
  (h1 : W P n x (nx (fun f' w' => (look f' c = some (.bool T) ∧ Le f f') ∧ Drew w w') Q) f w) (h2 : ∀ w1, Drew w w1 → W P n y Q ((c, .bool T) :: f) w1) : W P n (.seq x y) Q f w := by
 refine W.seq (h1.mono ?_)
 intro e f' w' h
 cases e with
 | normal =>
  obtain ⟨⟨hc, b⟩, d⟩ := h; exact fun a ha => h2 _ d a ⟨ha.1, ha.2.1, fun i v hv => ha.2.2 i v (b.put hc i v hv)⟩
 | _ => exact h
def WQ (P : Program) (n : Sh) (ops : Array Oper) (Q : Exit → Fr → World → Prop) (w : World) (l : List Oper) (f : Fr) : Prop :=
 ∀ a, Rep n f a → wpQuiet P ops (fun w' => ∃ m, w' = w.drewN m) (fun a' => ∀ w', (∃ m, w' = w.drewN m) → lift n Q .normal a' w') l a
theorem W.regQ {Q : Exit → Fr → World → Prop} {w : World} {id : Nat} {l : List Oper} (hm : P.follows .mixedOrders = true) (hB : Region.lexB .any l.toArray = true) (h : WQ P n l.toArray Q w l f) : W P n (.region id l.toArray true) Q f w :=
 fun a ha => wp_region_quiet_lit hm hB (h a ha)
section
variable {ops : Array Oper} {Q : Exit → Fr → World → Prop} {w : World} {rest : List Oper} {d ty : Nat} {pos : String} {aft : Array Edge} {op : Op} {v : Value}
theorem WQ.nil (h : ∀ w1, Drew w w1 → Q .normal f w1) : WQ P n ops Q w [] f := fun _ ha => wpQuiet_nil fun w' e => ⟨f, ha, h w' e⟩
theorem WQ.r (h : ∀ m, Rd P op f (w.drewN m) v) (hd : Nat.blt d n.n = true) (k : WQ P n ops Q w rest ((d, v) :: f)) : WQ P n ops Q w (⟨some d, op, ty, pos, aft, none⟩ :: rest) f := by
 intro a ha
 unfold wpQuiet
 rw [if_pos (by simp [Region.wanted])]
 refine ⟨v, ?_, k _ (ha.put hd v)⟩
 rintro w' ⟨m, rfl⟩
 unfold Oper.quietAt
 rw [h m _ ha.agr]
 exact ⟨rfl, rfl⟩
theorem WQ.p (h : Pure P op f v) (hd : Nat.blt d n.n = true) (k : WQ P n ops Q w rest ((d, v) :: f)) : WQ P n ops Q w (⟨some d, op, ty, pos, aft, none⟩ :: rest) f := WQ.r (fun _ => h.rd) hd k
theorem WQ.gd {j dj : Nat} {b t : Bool} (hj : (ops[j]?).bind (·.dst) = some dj) (ht : look f dj = some (.bool t)) (hd : Nat.blt d n.n = true)
    (hy : t = b → WQ P n ops Q w (⟨some d, op, ty, pos, aft, none⟩ :: rest) f) (hn : t = !b → WQ P n ops Q w rest ((d, undef) :: f)) :
    WQ P n ops Q w (⟨some d, op, ty, pos, aft, some (j, b)⟩ :: rest) f := by
  intro a ha
  have c := ha.2.2 _ _ ht
  have e : yielded ops a.tmps j = some t := by
    unfold yielded
    cases ho : ops[j]? with
    | none => rw [ho] at hj; cases hj
    | some o =>
      rw [ho] at hj
      simp only [Option.bind_some] at hj
      have g : a.tmps[dj]? = some (.bool t) := by
        cases h : a.tmps[dj]? with
        | none => rw [Array.getD_eq_getD_getElem?, h] at c; cases c
        | some v => rw [Array.getD_eq_getD_getElem?, h] at c; exact congrArg some c
      simp [hj, g]
  by_cases hb : t = b
  · have := hy hb a ha
    unfold wpQuiet at this ⊢
    simp only [Region.wanted, e, hb, beq_self_eq_true, if_true] at this ⊢
    exact this
  · have hb' : t = !b := by revert hb; cases t <;> cases b <;> decide
    have := hn hb' _ (ha.put hd undef)
    unfold wpQuiet
    have hw : (some t == some b) = false := by revert hb; cases t <;> cases b <;> decide
    simp only [Region.wanted, e, hw]
    exact this
theorem WQ.gy {j dj : Nat} {b t : Bool} (hj : (ops[j]?).bind (·.dst) = some dj) (ht : look f dj = some (.bool t)) (hd : Nat.blt d n.n = true) (e : t = b)
  (hy : WQ P n ops Q w (⟨some d, op, ty, pos, aft, none⟩ :: rest) f) : WQ P n ops Q w (⟨some d, op, ty, pos, aft, some (j, b)⟩ :: rest) f :=
 WQ.gd hj ht hd (fun _ => hy) (fun h => by rw [e] at h; cases b <;> cases h)
theorem WQ.gn {j dj : Nat} {b t : Bool} (hj : (ops[j]?).bind (·.dst) = some dj) (ht : look f dj = some (.bool t)) (hd : Nat.blt d n.n = true) (e : t = !b)
  (hn : WQ P n ops Q w rest ((d, undef) :: f)) : WQ P n ops Q w (⟨some d, op, ty, pos, aft, some (j, b)⟩ :: rest) f :=
 WQ.gd hj ht hd (fun h => by rw [e] at h; cases b <;> cases h) (fun _ => hn)
theorem WQ.c1 {F : FuncId} {xs : List Operand} {ats : Array TypeId} {vs : List Value} (hb : HasBody P F) (hx : evs f xs = some vs) (hd : Nat.blt d n.n = true)
  (hc : ∀ m, Calls P F vs.toArray (w.drewN m) fun e w' => e = .returned v ∧ ∃ k, w' = w.drewN k) (k : WQ P n ops Q w rest ((d, v) :: f)) :
  WQ P n ops Q w (⟨some d, .call ⟨.value (.func F), xs.toArray, ats⟩, ty, pos, aft, none⟩ :: rest) f := by
 intro a ha
 unfold wpQuiet
 rw [if_pos (by simp [Region.wanted])]
 refine ⟨v, ?_, k _ (ha.put hd v)⟩
 rintro w' ⟨m, rfl⟩
 unfold Oper.quietAt
 rw [run_callOp hb ha.agr hx]
 exact ⟨rfl, hc m⟩
end
end
theorem Pure.neAgg {P : Program} {f : Fr} {x y : Operand} {t ty : TypeId} {xs ys : Array Value} {r : Bool} (hx : evo f x = some (.agg xs)) (hy : evo f y = some (.agg ys)) (hm : P.eqGuardType P.depth t = false)
  (h : ∀ w, (binOp .neq t (.agg xs) (.agg ys)).run P w = .ok (.bool r) w) : Pure P (.binOp .neq t x y ty) f (.bool r) := fun ρ hρ d ty' pos aft g w => by
 simp [execOp, hρ _ _ hx, hρ _ _ hy, run_eqGuard_agg w .neq t x y xs ys hm, h]
theorem Pure.bis {P : Program} {op : Op} {f : Fr} {s : Bool} (t : Bool) (h : Pure P op f (.bool s)) (e : s = t) : Pure P op f (.bool t) := e ▸ h
theorem Pure.iis {P : Program} {op : Op} {f : Fr} {k : IntKind} {s : Int} (t : Int) (h : Pure P op f (.int k s)) (e : s = t) : Pure P op f (.int k t) := e ▸ h
theorem Pure.sis {P : Program} {op : Op} {f : Fr} {s : List UInt8} (t : List UInt8) (h : Pure P op f (.string (bs s))) (e : s = t) : Pure P op f (.string (bs t)) := e ▸ h
def ones : List Value → Bool
 | [] => true
 | v :: r => v.oneCell' && ones r
theorem ones_mem : ∀ {l : List Value}, ones l = true → ∀ v ∈ l, v.oneCell' = true
 | [], _, v, hv => by cases hv
 | u :: r, h, v, hv => by
  simp only [ones, Bool.and_eq_true] at h
  rcases List.mem_cons.1 hv with rfl | hv
  ·
   exact h.1
  ·
   exact ones_mem h.2 v hv
def put1 : List Value → List (Nat × Value) → List Value
 | z, [] => z
 | z, (i, v) :: r => put1 (z.set i v) r
theorem pR {p : Prop} (h : p := by simp only [put1, List.map, List.zip, List.zipWith, List.set, List.replicate] <;> rfl) : p := h
theorem pS {p : Prop} (h : p := by simp only [put1, List.map, List.zip, List.zipWith, List.set] <;> rfl) : p := h
theorem pZ {p : Prop} (h : p := by simp only [put1, List.map, List.zip, List.zipWith] <;> rfl) : p := h
def idPlaces : Nat → Nat → List (Nat × Nat) → Bool
 | _, 0, l => l.isEmpty
 | k, n + 1, p :: l => Nat.beq p.1 k && Nat.beq p.2 1 && idPlaces (k + 1) n l
 | _, _ + 1, [] => false
theorem idPlaces_at : ∀ (n k : Nat) (l : List (Nat × Nat)), idPlaces k n l = true → ∀ i, i < n → l[i]? = some (k + i, 1)
 | 0, _, _, _, _, hi => by omega
 | n + 1, k, [], h, _, _ => by cases h
 | n + 1, k, p :: l, h, i, hi => by
  simp only [idPlaces, Bool.and_eq_true] at h
  obtain ⟨⟨h1, h2⟩, h3⟩ := h
  cases i with
  | zero =>
   have e1 := Nat.eq_of_beq_eq_true h1
   have e2 := Nat.eq_of_beq_eq_true h2
   simp; exact Prod.ext e1 e2
  | succ i =>
   have := idPlaces_at n (k + 1) l h3 i oO
   rw [List.getElem?_cons_succ, this]
   congr 2; omega
theorem oneCells {v : Value} (h : v.oneCell' = true) : v.cells = #[v] := by cases v <;> first | rfl | cases h
def idxOk (n : Nat) : List (Nat × Value) → Bool
 | [] => true
 | (i, v) :: r => Nat.blt i n && v.oneCell' && idxOk n r
theorem fill_put1 {pl : List (Nat × Nat)} {n : Nat} (hp : idPlaces 0 n pl = true) : ∀ (parts : List (Nat × Value)) (z : List Value), z.length = n → idxOk n parts = true → Instr.fill (pl.toArray[·]?) z.toArray parts = some (put1 z parts).toArray
 | [], z, _, _ => rfl
 | (i, v) :: r, z, hz, ho => by
  simp only [idxOk, Bool.and_eq_true] at ho
  obtain ⟨⟨h1, h2⟩, h3⟩ := ho
  have hi : i < n := by simpa [Nat.blt_eq] using h1
  have a := idPlaces_at n 0 pl hp i hi
  have hc := oneCells h2
  have ih := fill_put1 hp r (z.set i v) (by simpa using hz) h3
  simp only [Nat.zero_add] at a
  have b : pl.toArray[i]? = some (i, 1) := by simpa using a
  have hf : (#[v].zipIdx.foldl (fun cs (x : Value × Nat) => cs.setIfInBounds (i + x.2) x.1) z.toArray) = (z.set i v).toArray := by simp [Array.zipIdx]
  refine Eq.trans ?_ ih
  conv => lhs; unfold Instr.fill
  simp only [b, hc]
  rw [if_neg (by simp; omega)]
  exact congrArg (fun c => Instr.fill (pl.toArray[·]?) c r) hf
theorem Pure.buildL {P : Program} {f : Fr} {t : TypeId} {ps : List (Nat × Operand)} {vs zl l : List Value} {pl : List (Nat × Nat)} (hb : P.built t = fun parts => Instr.fill (pl.toArray[·]?) zl.toArray parts) (hp : idPlaces 0 zl.length pl = true)
  (hx : evs f (ps.map (·.2)) = some vs) (ho : idxOk zl.length ((ps.map (·.1)).zip vs) = true) (hl : put1 zl ((ps.map (·.1)).zip vs) = l) : Pure P (.build t ps.toArray) f (.agg l.toArray) :=
 Pure.build hx (by rw [hb, ← hl]; exact fill_put1 hp _ _ rfl ho)
theorem WL.stL {P : Program} {n : Sh} {f : Fr} {ops : Array Oper} {Q : Exit → Fr → World → Prop} {w : World} {rest : List Oper} {ty : Nat} {pos : String} {aft : Array Edge} {t tb : TypeId} {x y : Operand} {b : Nat} {old l : List Value} (hx : evo f x = some (.pointer (some ⟨b, 0, none⟩))) (hy : evo f y = some (.agg l.toArray)) (hb : Blk w b old.toArray tb)
  (hi : (P.info? t).map (·.size) = some l.length) (ho : old.length = l.length) (h1 : ones l = true)
  (k : ∀ w1, Blk w1 b l.toArray tb → Upd b w w1 → w1.heap.size = w.heap.size → WL P n ops Q rest f w1) :
  WL P n ops Q (⟨none, .store t x y, ty, pos, aft, none⟩ :: rest) f w :=
 WL.stA hx hy hb (by simpa using hi) (by simpa using ho) (by simpa using ones_mem h1) k
theorem ldRow {P : Program} {w : World} {b : Nat} {cs : Array Value} {t tb : TypeId} {dd : TypeDesc} (hb : Blk w b cs tb) (hu : P.underlying t = some dd)
  (hd : (match dd with | .struct _ | .array _ _ => true | _ => false) = true) (hi : (P.info? t).map (·.size) = some cs.size) : (loadVar t ⟨b, 0, none⟩).run P w = .ok (.agg cs) w := run_loadVar_row w b tb t cs (0, 0) dd hb hu hd hi
theorem pn_is {P : Program} {fn : Func} {R : Ending → World → Prop} {c : List PanicEntry} {f : Fr} {w : World} (h : R (.panicked c) w) : Post P fn R (.panic c) f w := h
theorem pn_post {P : Program} {fn : Func} {R : Ending → World → Prop} {c : List PanicEntry} {f g : Fr} {w : World} (h : Post P fn R (.panic c) f w) : Post P fn R (.panic c) g w := h
theorem upon_post {P : Program} {o : Oper} {a : Act} {w : World} {K : Act → World → Prop} {Q Q' : Exit → Act → World → Prop} (h : o.wp P a w K Q) (hq : ∀ e a w, e ≠ .normal → Q e a w → Q' e a w) : o.wp P a w K Q' := by
 unfold Oper.wp at *
 generalize (execOp a.eval o).run P w = r at *
 cases r with
 | ok m w' =>
  cases m <;> simp only [Oper.upon] at h ⊢ <;>
   first
    | exact h
    | exact Calls.mono h (fun e w'' he => by
      cases e with
      | returned v => exact he
      | panicked c => exact hq _ _ _ (by simp) he
      | outgrown => obtain ⟨a', b, d⟩ := he; exact ⟨a', b, hq _ _ _ (by simp) d⟩)
 | halt x w' => cases x <;> simp only [Oper.upon] at h ⊢ <;> first | exact h | exact hq _ _ _ (by simp) h
def WY (P : Program) (n : Sh) (ops : Array Oper) (Q : Exit → Fr → World → Prop) (fuel : Nat) (listed : Array Bool) (f : Fr) (w : World) : Prop := ∀ a, Rep n f a → wpAny P .any ops (lift n Q) fuel listed a w
section
variable {P : Program} {n : Sh} {f : Fr} {ops : Array Oper} {Q : Exit → Fr → World → Prop} {w : World} {fuel : Nat} {listed : Array Bool}
theorem W.regY {id : Nat} {l : List Oper} (N : Nat) (hN : l.length = N) (hm : P.follows .mixedOrders = true) (h : ∀ w1, Drew w w1 → WY P n l.toArray Q N (Array.replicate N false) f w1) : W P n (.region id l.toArray true) Q f w :=
 fun a ha => wp_region_any hm (by
  subst hN
  have := h (w.drewN 1) ⟨1, rfl⟩ a ha
  rw [show l.toArray.size = l.length by simp]
  exact this)
theorem WY.take (i : Nat) {d ty : Nat} {pos : String} {aft : Array Edge} {op : Op} {v : Value} (hi : ops[i]? = some ⟨some d, op, ty, pos, aft, none⟩) (hs : Region.noSelect ops = true) (hf : Region.free .any ops listed i = true)
  (hr : (Region.ready .any ops listed).contains i = true) (hQ : ∀ c f w, Q (.panic c) f w → Q (.panic c) [] w) (hp : Pure P op f v) (hd : Nat.blt d n.n = true)
  (k : WY P n ops Q fuel (listed.setIfInBounds i true) ((d, v) :: f) w) : WY P n ops Q (fuel + 1) listed f w := by
 intro a ha
 refine wpAny_take hi hs hf hr ?_ (.inl ⟨by simp [Region.wanted], fun w => hp _ ha.agr _ _ _ _ _ w⟩) (k _ (ha.put hd v))
 rintro c b w' ⟨g, hg, hq⟩
 have e := hg.1
 have j := hg.2.1
 refine ⟨[], ⟨?_, ?_, fun i u hu => by cases hu⟩, hQ c g w' hq⟩
 ·
  exact e
 ·
  simpa [Act.put] using j
def BrAll (P : Program) (n : Sh) (ops : Array Oper) (Q : Exit → Fr → World → Prop) (fuel : Nat) (listed : Array Bool) (f : Fr) (w : World) : List Nat → Prop
 | [] => True
 | i :: r => (∃ o, ops[i]? = some o ∧ WL P n ops (nx (fun f' w' => WY P n ops Q fuel (listed.setIfInBounds i true) f' w') Q) [o] f w) ∧ BrAll P n ops Q fuel listed f w r
theorem BrAll.mem : ∀ {rs : List Nat}, BrAll P n ops Q fuel listed f w rs → ∀ i ∈ rs, ∃ o, ops[i]? = some o ∧ WL P n ops (nx (fun f' w' => WY P n ops Q fuel (listed.setIfInBounds i true) f' w') Q) [o] f w
 | [], _, _, h => by cases h
 | j :: r, h, i, hi => by
  rcases List.mem_cons.1 hi with rfl | hi
  ·
   exact h.1
  ·
   exact BrAll.mem h.2 i hi
theorem WY.br (rs : List Nat) (hr : Region.ready .any ops listed = rs) (hne : rs.isEmpty = false) (h : BrAll P n ops Q fuel listed f w rs) : WY P n ops Q (fuel + 1) listed f w := by
 intro a ha
 refine wpAny_all hr (by cases rs with | nil => cases hne | cons _ _ => simp) fun i hi => ?_
 obtain ⟨o, ho, hw⟩ := h.mem i hi
 have := hw a ha
 unfold wpOp
 simp only [ho]
 have conv : ∀ (e : Exit) (a : Act) (w : World), lift n (nx (fun f' w' => WY P n ops Q fuel (listed.setIfInBounds i true) f' w') Q) e a w → Exit.then (wpAny P .any ops (lift n Q) fuel (listed.setIfInBounds i true)) (lift n Q) e a w := by
  rintro e a w ⟨g, hg, hq⟩
  cases e with
  | normal => exact hq a hg
  | _ => exact ⟨g, hg, hq⟩
 unfold wpList at this
 split
 ·
  next hwt =>
  rw [if_pos hwt] at this
  refine this.imp (fun h => ?_) fun ⟨b, a', w', c⟩ => ⟨b, a', w', conv _ _ _ c⟩
  have h' : o.wp P a w (wpAny P .any ops (lift n Q) fuel (listed.setIfInBounds i true)) (lift n (nx (fun f' w' => WY P n ops Q fuel (listed.setIfInBounds i true) f' w') Q)) :=
   Oper.wp_mono (fun a w h => conv .normal a w h) h
  exact upon_post h' fun e a w he h => by
   cases e with
   | normal => exact ab_ rfl he
   | _ => exact conv _ a w h
 ·
  next hwt =>
  rw [if_neg hwt] at this
  exact conv .normal _ _ this
theorem WY.tk (i : Nat) {d ty : Nat} {pos : String} {aft : Array Edge} {op : Op} {v : Value} (hi : ops[i]? = some ⟨some d, op, ty, pos, aft, none⟩) (hp : Pure P op f v) (hd : Nat.blt d n.n = true)
  (k : WY P n ops Q fuel (listed.setIfInBounds i true) ((d, v) :: f) w) (hs : Region.noSelect ops = true := by kernel_rfl) (hf : Region.free .any ops listed i = true := by kernel_rfl)
  (hr : (Region.ready .any ops listed).contains i = true := by kernel_rfl) (hQ : ∀ c f w, Q (.panic c) f w → Q (.panic c) [] w := by first | exact fun c f w h => pn_post h | exact fun c f w h => h) : WY P n ops Q (fuel + 1) listed f w :=
 WY.take i hi hs hf hr hQ hp hd k
theorem WY.br1 (i : Nat) {o : Oper} (hi : ops[i]? = some o) (h : WL P n ops (nx (fun f' w' => WY P n ops Q fuel (listed.setIfInBounds i true) f' w') Q) [o] f w) (hr : Region.ready .any ops listed = [i] := by kernel_rfl) : WY P n ops Q (fuel + 1) listed f w :=
 WY.br [i] hr rfl ⟨⟨_, hi, h⟩, tT⟩
theorem WY.br2 (i : Nat) {o : Oper} (hi : ops[i]? = some o) (j : Nat) {o2 : Oper} (hj : ops[j]? = some o2) (h : WL P n ops (nx (fun f' w' => WY P n ops Q fuel (listed.setIfInBounds i true) f' w') Q) [o] f w)
  (h2 : WL P n ops (nx (fun f' w' => WY P n ops Q fuel (listed.setIfInBounds j true) f' w') Q) [o2] f w) (hr : Region.ready .any ops listed = [i, j] := by kernel_rfl) : WY P n ops Q (fuel + 1) listed f w :=
 WY.br [i, j] hr rfl ⟨⟨_, hi, h⟩, ⟨_, hj, h2⟩, tT⟩
theorem WY.done (hr : Region.ready .any ops listed = []) (h : Q .normal f w) : WY P n ops Q fuel listed f w := fun _ ha => wpAny_done hr ⟨f, ha, h⟩ fuel
end
attribute [irreducible] Post W WL WQ WS WY
end
section
section
variable {P : Program} {n : Sh} {f : Fr}
def pA (p : Option Addr) : Addr := p.getD ⟨0, 0, none⟩
structure BytesAt (w : World) (p : Option Addr) (l : List UInt8) : Prop where
 isp : 0 < l.length → p = some (pA p)
 cells : ∀ j (h : j < l.length), w.cell? ((pA p).add j) = some (.int .u8 (l[j].toNat : Int))
theorem BytesAt.nil (w : World) : BytesAt w none [] := ⟨fun h => by simp at h, fun j h => by simp at h⟩
theorem add_zero_addr (a : Addr) : a.add 0 = a := by unfold Addr.add; split <;> simp_all
theorem add_block (a : Addr) (k : Nat) : (a.add k).block = a.block := by unfold Addr.add; split <;> simp_all
theorem add_add (a : Addr) (j k : Nat) : (a.add j).add k = a.add (j + k) := by
 unfold Addr.add
 split <;> simp_all <;> (try split) <;> simp_all <;> omega
theorem BytesAt.below {w w1 : World} {B : Nat} {p : Option Addr} {l : List UInt8} (h : BytesAt w p l) (hb : Below B w w1) (hp : 0 < l.length → (pA p).block < B) : BytesAt w1 p l :=
 ⟨h.isp, fun j hj => by rw [hb.cell (by rw [add_block]; exact hp oO)]; exact h.cells j hj⟩
abbrev bb_ := @BytesAt.below
theorem BytesAt.upd {w w1 : World} {b : Nat} {p : Option Addr} {l : List UInt8} (h : BytesAt w p l) (hu : Upd b w w1) (hp : 0 < l.length → (pA p).block ≠ b) : BytesAt w1 p l :=
 ⟨h.isp, fun j hj => by rw [World.cell?_of_block (w := w) (hu.other _ (by rw [add_block]; exact hp oO))]; exact h.cells j hj⟩
theorem bup {w w1 : World} {b : Nat} {p : Option Addr} {l : List UInt8} (h : BytesAt w p l) (hu : Upd b w w1) (hp : 0 < l.length → (pA p).block < b) : BytesAt w1 p l := BytesAt.upd h hu (fun h0 => Nat.ne_of_lt (hp h0))
theorem BytesAt.drewN {w : World} {p : Option Addr} {l : List UInt8} (h : BytesAt w p l) (m : Nat) : BytesAt (w.drewN m) p l := ⟨h.isp, h.cells⟩
theorem BytesAt.lt {w : World} {p : Option Addr} {l : List UInt8} (h : BytesAt w p l) (hl : 0 < l.length) : (pA p).block < w.heap.size := by
 have := h.cells 0 hl
 unfold World.cell? at this
 rw [add_block] at this
 cases hb : w.heap[(pA p).block]? with
 | none => rw [hb] at this; cases this
 | some o => exact (Array.getElem?_eq_some_iff.1 hb).1
theorem Pure.ixb {tx e : TypeId} {x y : Operand} {p : Option Addr} {l c : Nat} {i : Int} {k : IntKind} (hu : P.underlying tx = some (.slice e)) (hs : ∀ w, (sizeOf e).run P w = .ok 1 w) (hx : evo f x = some (.slice p l c))
  (hi : evo f y = some (.int k i)) (hp : p = some (pA p)) (j : Nat) (e' : i = j) (hj : j < l) : Pure P (.indexAddr tx x y) f (.pointer (some ((pA p).add j))) := by
 have h := Pure.ixa (P := P) (f := f) (p := pA p) (c := c) hu hs (hx.trans (by rw [← hp])) hi j e' hj
 rwa [Nat.mul_one] at h
theorem push_bytes (l : List UInt8) : (l.map fun b => (b.toNat : Int)).foldl (fun (r : ByteArray) n => r.push (UInt8.ofNat n.toNat)) ByteArray.empty = bs l := by
 have key : ∀ (l m : List UInt8), (l.map fun b => (b.toNat : Int)).foldl (fun (r : ByteArray) n => r.push (UInt8.ofNat n.toNat)) (bs m) = bs (m ++ l) := by
  intro l
  induction l with
  | nil => intro m; simp
  | cons c r ih =>
   intro m
   have e : (bs m).push (UInt8.ofNat ((c.toNat : Int)).toNat) = bs (m ++ [c]) := by
    rw [Int.toNat_natCast, UInt8.ofNat_toNat]
    apply ByteArray.ext
    simp [bs, ByteArray.push]
   rw [List.map_cons, List.foldl_cons, e, ih, List.append_assoc]; rfl
 have := key l []
 rw [List.nil_append] at this
 exact this
theorem Rd.b2s {tx ty e : TypeId} {x : Operand} {p : Option Addr} {l : List UInt8} {c : Nat} {w : World} (hu : P.underlying tx = some (.slice e)) (he : P.underlying e = some (.int .u8)) (ht : P.underlying ty = some .string)
  (hx : evo f x = some (.slice p l.length c)) (hb : BytesAt w p l) : Rd P (.convert tx ty x) f w (.string (bs l)) := fun ρ hρ d ty' pos aft g => by
 have hv := hρ _ _ hx
 have key : (convert tx ty (.slice p l.length c)).run P w = .ok (.string (bs l)) w := by
  cases p with
  | none =>
   have i : l = [] := by
    cases l with
    | nil => rfl
    | cons a r => have := hb.isp (by simp); cases this
   subst i
   simp [convert, run_underlying hu, run_underlying he, run_underlying ht, Conv.bytesToString]
   rfl
  | some a =>
   have hl : (loadCells a l.length).run P w = .ok ((l.map fun b => (b.toNat : Int)).map (Value.int .u8)).toArray w := by
    have := run_loadCells_list (P := P) w a ((l.map fun b => (b.toNat : Int)).map (Value.int .u8)) (fun j v hj => by
     simp only [List.getElem?_map, Option.map_eq_some_iff] at hj
     obtain ⟨z, ⟨b, hb1, rfl⟩, rfl⟩ := hj
     obtain ⟨k, rfl⟩ := List.getElem?_eq_some_iff.1 hb1
     exact hb.cells j k)
    simpa using this
   rw [run_convert_bytes_string w tx ty e _ _ _ hu he ht, run_bytesToString w a l.length c _ hl, push_bytes]
 unfold execOp
 simp only [hv, Sem.run_bind, key, Result.andThen_ok, Sem.run_pure]
theorem BytesAt.one {w : World} {b : Nat} {x : Int} {t : TypeId} {c : UInt8} (h : Blk w b #[.int .u8 x] t) (e : x = (c.toNat : Int)) : BytesAt w (some ⟨b, 0, none⟩) [c] :=
 ⟨fun _ => rfl, fun j hj => by
  obtain rfl : j = 0 := by simp at hj; omega
  show w.cell? ((⟨b, 0, none⟩ : Addr).add 0) = _
  rw [add_zero_addr, h.cell 0, e]; rfl⟩
theorem fill_seq {n : Nat} : ∀ (parts : List (Nat × Value)) (z : List Value), z.length = n → idxOk n parts = true → Instr.fill (fun i => some (i * 1, 1)) z.toArray parts = some (put1 z parts).toArray
 | [], z, _, _ => rfl
 | (i, v) :: r, z, hz, ho => by
  simp only [idxOk, Bool.and_eq_true] at ho
  obtain ⟨⟨h1, h2⟩, h3⟩ := ho
  have hi : i < n := by simpa [Nat.blt_eq] using h1
  have hc := oneCells h2
  have ih := fill_seq r (z.set i v) (by simpa using hz) h3
  have hf : (#[v].zipIdx.foldl (fun cs (x : Value × Nat) => cs.setIfInBounds (i * 1 + x.2) x.1) z.toArray) = (z.set i v).toArray := by simp [Array.zipIdx]
  refine Eq.trans ?_ ih
  conv => lhs; unfold Instr.fill
  simp only [hc]
  rw [if_neg (by simp; omega)]
  exact congrArg (fun c => Instr.fill (fun i => some (i * 1, 1)) c r) hf
theorem WL.bsl {ops : Array Oper} {Q : Exit → Fr → World → Prop} {w : World} {rest : List Oper} {d ty : Nat} {pos : String} {aft : Array Edge} {t e : TypeId} {len : Nat} {ps : List (Nat × Operand)} {vs l : List Value} {z : Value}
  (hu : P.underlying t = some (.slice e)) (hs : ∀ w, (sizeOf e).run P w = .ok 1 w) (hz : ∀ w, (zeroValue e).run P w = .ok z w) (hz1 : z.oneCell' = true) (hl0 : Nat.blt 0 len = true) (hl1 : Nat.ble len 1000 = true)
  (hx : evs f (ps.map (·.2)) = some vs) (ho : idxOk len ((ps.map (·.1)).zip vs) = true) (hl : put1 (List.replicate len z) ((ps.map (·.1)).zip vs) = l) (hd : Nat.blt d n.n = true)
  (k : ∀ b w1, b = w.heap.size → Blk w1 b l.toArray e → Upd b w w1 → w1.heap.size = b + 1 → WL P n ops Q rest ((d, .slice (some ⟨b, 0, none⟩) len len) :: f) w1) :
  WL P n ops Q (⟨some d, .buildSlice t len ps.toArray, ty, pos, aft, none⟩ :: rest) f w := by
 have A : 0 < len := by simpa [Nat.blt_eq] using hl0
 have s : len ≤ 1000 := by simpa using hl1
 refine WL.run hd (w' := w.alloc (.cells l.toArray e)) (v := .slice (some ⟨w.heap.size, 0, none⟩) len len) (fun ρ hρ => ?_) (k _ _ rfl (Blk.alloc _ _ _) (Upd.alloc _ _) (by simp))
 have m := evs_map hρ _ _ hx
 have u : (ps.toArray.map fun (i, x) => (i, ρ x)).toList = (ps.map (·.1)).zip vs := by
  rw [← m]; simp only [List.map_map, Array.toList_map]
  clear hx ho hl m
  induction ps with
  | nil => rfl
  | cons p r ih => simpa using ih
 have o := oneCells hz1
 have g : (Array.range (len * 1)).map (fun x => (#[z] : Array Value)[x % (#[z] : Array Value).size]!) = (List.replicate len z).toArray := by
  apply Array.ext
  ·
   simp
  ·
   intro i s B; simp [Nat.mod_one]
 have a := fill_seq (n := len) ((ps.map (·.1)).zip vs) (List.replicate len z) (by simp) ho
 rw [hl] at a
 have j : Instr.fill (fun i => some (i, 1)) (List.replicate len z).toArray ((ps.map (·.1)).zip vs) = some l.toArray := by simpa using a
 have c : (Array.range len).map (fun x => (#[z] : Array Value)[x % (#[z] : Array Value).size]!) = (List.replicate len z).toArray := by simpa using g
 have q : len ≠ 0 := by omega
 have y : ¬ 16777216 < len := by omega
 unfold execOp
 simp only [Instr.buildSlice, Sem.run_bind, run_underlying hu, hs, Result.andThen_ok, u, Nat.mul_one]
 rw [if_neg oO, if_neg q]
 simp only [Sem.run_bind, hz, o, Sem.run_pure, Result.andThen_ok, c, j]
 simp [newRow]
end
end
section
structure Touch (B r : Nat) (w w1 : World) : Prop where
 os : w1.os = w.os
 tape : w1.tape = w.tape
 output : w1.output = w.output
 size : w.heap.size ≤ w1.heap.size
 block : ∀ k, k < B → k ≠ r → w1.heap[k]? = w.heap[k]?
theorem Touch.refl (B r : Nat) (w : World) : Touch B r w w := ⟨rfl, rfl, rfl, nr_ _, fun _ _ _ => rfl⟩
theorem Touch.trans {B r : Nat} {a b c : World} (h : Touch B r a b) (k : Touch B r b c) : Touch B r a c :=
 ⟨k.os.trans h.os, k.tape.trans h.tape, k.output.trans h.output, nt_ h.size k.size, fun i hi hr => (k.block i hi hr).trans (h.block i hi hr)⟩
abbrev tt_ := @Touch.trans
theorem Touch.mono {B B' r : Nat} {a b : World} (h : Touch B r a b) (hB : B' ≤ B) : Touch B' r a b := ⟨h.os, h.tape, h.output, h.size, fun i hi hr => h.block i oO hr⟩
abbrev tm_ := @Touch.mono
theorem Touch.of_below {B r : Nat} {a b : World} (h : Below B a b) : Touch B r a b := ⟨h.os, h.tape, h.output, h.size, fun i hi _ => h.block i hi⟩
abbrev tb_ := @Touch.of_below
theorem Touch.of_drew {B r : Nat} {a b : World} (h : Drew a b) : Touch B r a b := tb_ (h.below (br_ _ _))
abbrev td_ := @Touch.of_drew
theorem Touch.of_upd {B r : Nat} {a b : World} (h : Upd r a b) : Touch B r a b := ⟨h.os, h.tape, h.output, h.size, fun i _ hr => h.other i hr⟩
theorem Touch.of_new {B r c : Nat} {a b : World} (h : Upd c a b) (hc : B ≤ c) : Touch B r a b := ⟨h.os, h.tape, h.output, h.size, fun i hi _ => h.other i oO⟩
abbrev tn_ := @Touch.of_new
theorem Touch.below {B B' r : Nat} {a b : World} (h : Touch B' r a b) (hB : B ≤ B') (hr : B ≤ r) : Below B a b := ⟨h.os, h.tape, h.output, h.size, fun i hi => h.block i oO oO⟩
theorem Blk.touch {B r c : Nat} {w w1 : World} {cs : Array Value} {t : TypeId} (h : Blk w c cs t) (hT : Touch B r w w1) (hc : c < B) (hr : c ≠ r) : Blk w1 c cs t := (hT.block c hc hr).trans h
abbrev bo_ := @Blk.touch
theorem BytesAt.drew {w w1 : World} {p : Option Addr} {l : List UInt8} (h : BytesAt w p l) (d : Drew w w1) : BytesAt w1 p l := by obtain ⟨m, rfl⟩ := d; exact h.drewN m
section
variable {P : Program} {n : Sh} {f : Fr}
def Own (e : TypeId) (B : Nat) (w : World) (v : Value) (xs : List Value) : Prop := w.ownsRow B e 1 v xs.length xs
theorem Own.nil (e : TypeId) (B : Nat) (w : World) : Own e B w (.slice none 0 0) [] := World.ownsRow_nil w B e 1
theorem Own.touch {e : TypeId} {B r : Nat} {w w1 : World} {v : Value} {xs : List Value} (h : Own e B w v xs) (hu : Upd r w w1) (hr : r < B) : Own e B w1 v xs := by
 obtain ⟨hl, h⟩ := h
 refine ⟨hl, h.imp id fun ⟨g, cap, cur, a, b, c, d⟩ => ⟨g, cap, cur, a, b, (hu.other g oO).trans c, d⟩⟩
theorem Own.new {e : TypeId} {B b : Nat} {w w1 : World} {v : Value} {xs : List Value} (h : Own e B w v xs) (eb : b = w.heap.size) (hu : Upd b w w1) : Own e B w1 v xs := by
 obtain ⟨hl, h⟩ := h
 refine ⟨hl, h.imp id fun ⟨g, cap, cur, c, d, a, f⟩ => ⟨g, cap, cur, c, d, (hu.other g (by have := (Array.getElem?_eq_some_iff.1 a).1; omega)).trans a, f⟩⟩
theorem Own.below {e : TypeId} {B : Nat} {w w1 : World} {v : Value} {xs : List Value} (h : Own e B w v xs) (hb : Below w.heap.size w w1) : Own e B w1 v xs := by
 obtain ⟨hl, h⟩ := h
 refine ⟨hl, h.imp id fun ⟨g, cap, cur, b, c, a, d⟩ => ⟨g, cap, cur, b, c, (hb.block g (Array.getElem?_eq_some_iff.1 a).1).trans a, d⟩⟩
theorem Own.touch' {e : TypeId} {B r : Nat} {w w1 : World} {v : Value} {xs : List Value} (h : Own e B w v xs) (hT : Touch w.heap.size r w w1) (hr : r < B) : Own e B w1 v xs := by
 obtain ⟨hl, h⟩ := h
 refine ⟨hl, h.imp id fun ⟨g, cap, cur, b, c, a, d⟩ => ⟨g, cap, cur, b, c, (hT.block g (Array.getElem?_eq_some_iff.1 a).1 oO).trans a, d⟩⟩
theorem Own.drew {e : TypeId} {B : Nat} {w w1 : World} {v : Value} {xs : List Value} (h : Own e B w v xs) (d : Drew w w1) : Own e B w1 v xs := by obtain ⟨m, rfl⟩ := d; exact h
theorem Own.bytes {e : TypeId} {B : Nat} {w : World} {v : Value} {l : List UInt8} (h : Own e B w v (byteVals l)) : ∃ p c, v = .slice p l.length c ∧ BytesAt w p l ∧ (0 < l.length → B ≤ (pA p).block) := by
  have b : (byteVals l).length = l.length := by simp [byteVals]
  obtain ⟨hl, h⟩ := h
  rcases h with ⟨rfl, d⟩ | ⟨g, cap, cur, rfl, hB, hg, f, m, n, a⟩
  · obtain rfl : l = [] := by rw [b] at d; exact List.length_eq_zero_iff.1 d
    exact ⟨none, 0, rfl, BytesAt.nil w, fun h => by simp at h⟩
  · rw [b] at f a ⊢
    refine ⟨_, cap, rfl, ⟨fun _ => rfl, fun j hj => ?_⟩, fun _ => hB⟩
    have k : (pA (some ⟨g, 0, none⟩)).add j = ⟨g, j, none⟩ := by
      show (⟨g, 0, none⟩ : Addr).add j = _
      unfold Addr.add; split
      · next h => subst h; rfl
      · simp
    have hc := Lib.cell_of_heap hg j
    rw [k, hc, ← Array.getElem?_toList]
    have i : (cur.toList.take (l.length * 1))[j]? = (byteVals l)[j]? := by rw [a]
    rw [List.getElem?_take, if_pos oO] at i
    rw [i]
    simp [byteVals, hj]
theorem WL.app1 {ops : Array Oper} {Q : Exit → Fr → World → Prop} {w : World} {rest : List Oper} {d ty : Nat} {pos : String} {aft : Array Edge} {s x : Operand} {t e : TypeId} {B : Nat} {i : TypeInfo} {z v u : Value} {xs : List Value} {b c by' : Nat} {tb : TypeId}
    (ht : P.underlying t = some (.slice e)) (hi : P.info? e = some i) (hz : i.zero = some z) (hsize : i.size = 1) (hby : i.bytes = by') (hby2 : by' ≤ 16) (hzs : z.cells.size = 1)
    (hs : evo f s = some v) (hown : Own e B w v xs) (hx : evo f x = some (.slice (some ⟨b, 0, none⟩) 1 c)) (hb : Blk w b #[u] tb) (h1 : u.oneCell' = true)
    (hn : xs.length ≤ 1000000000) (hB : B ≤ w.heap.size) (hd : Nat.blt d n.n = true)
    (k : ∀ v' w', Own e B w' v' (xs ++ [u]) → Below B w w' → w.grownBy w' v.ownBlock → WL P n ops Q rest ((d, v') :: f) w') :
    WL P n ops Q (⟨some d, .call ⟨.builtin .append, #[s, x], #[t, t]⟩, ty, pos, aft, none⟩ :: rest) f w := by
  obtain ⟨v', w', g, l, a, -⟩ := run_append_own (P := P) (w := w) B t ty e i z 1 by' ht hi hz hsize hby hzs dD v xs.length xs hown ⟨b, 0, none⟩ 1 c [u] rfl
    (fun j y hj => by
      have m : j = 0 := by
        rcases Nat.eq_zero_or_pos j with h | h
        · exact h
        · rw [List.getElem?_eq_none (by simp; omega)] at hj; cases hj
      subst m; simp only [List.getElem?_cons_zero, Option.some.injEq] at hj; subst hj; rw [add_zero_addr, hb.cell 0]; rfl) (by simpa using h1) (by unfold maxLen; omega) (by
      have : (xs.length + 1) * by' ≤ (xs.length + 1) * 16 := Nat.mul_le_mul_left _ hby2
      omega) hB
  refine WL.run hd (w' := w') (v := v') (fun ρ hρ => ?_) (k v' w' ?_ ((br_ _ _).grown a hB fun k hk => (hown.lt k hk).1) a)
  · unfold execOp
    simp only [resolve, invoke, builtin, Sem.run_bind, Sem.run_pure, Result.andThen_ok, List.map_toArray, List.map_cons, List.map_nil, hρ _ _ hs, hρ _ _ hx, g]
  · have o : (xs ++ [u]).length = xs.length + 1 := by simp
    unfold Own; rw [o]; exact l
theorem Pure.mkI {tx : TypeId} {x : Operand} {k : IntKind} {v : Value} (hu : P.underlying tx = some (.int k)) (hx : evo f x = some v) : Pure P (.makeInterface tx x) f (.iface tx v) := fun ρ hρ d ty pos aft g w => by
 simp [execOp, hρ _ _ hx, Instr.makeInterface, run_underlying hu]
theorem WL.panic {ops : Array Oper} {Q : Exit → Fr → World → Prop} {w : World} {rest : List Oper} {d : Option Tmp} {ty : Nat} {pos : String} {aft : Array Edge} {x : Operand} {t : TypeId} {v : Value}
  (hx : evo f x = some (.iface t v)) (k : Q (.panic [{ v := .iface t v, recovered := false }]) f w) : WL P n ops Q (⟨d, .panic x, ty, pos, aft, none⟩ :: rest) f w :=
 WL.pn (fun ρ hρ => by simp [execOp, hρ _ _ hx, Instr.panic]) k
def Ends {α : Type} (E : TypeId) (res : Except Int α) (V : α → Value) (S : α → World → Prop) (S' : World → Prop) (e : Ending) (w : World) : Prop :=
 match res with
 | .ok a => e = .returned (V a) ∧ S a w
 | .error k => e = .panicked [{ v := .iface E (.int .i64 k), recovered := false }] ∧ S' w
theorem WL.ce {ops : Array Oper} {Q : Exit → Fr → World → Prop} {w : World} {rest : List Oper} {d ty : Nat} {pos : String} {aft : Array Edge} {F : FuncId} {xs : List Operand} {ats : Array TypeId} {vs : List Value} {α : Type}
  {E : TypeId} {res : Except Int α} {V : α → Value} {S : α → World → Prop} {S' : World → Prop} (hb : HasBody P F) (hx : evs f xs = some vs) (hd : Nat.blt d n.n = true)
  (hc : Calls P F vs.toArray w (Ends E res V S S')) (herr : ∀ k w', res = .error k → S' w' → Q (.panic [{ v := .iface E (.int .i64 k), recovered := false }]) f w')
  (hok : ∀ a w', res = .ok a → S a w' → WL P n ops Q rest ((d, V a) :: f) w') : WL P n ops Q (⟨some d, .call ⟨.value (.func F), xs.toArray, ats⟩, ty, pos, aft, none⟩ :: rest) f w := by
 cases hres : res with
 | ok a => exact WL.c1 hb hx hd (hc.mono fun e w' h => by rw [hres] at h; exact h) fun w' h => hok a w' hres h
 | error k => exact WL.cp hb hx (hc.mono fun e w' h => by rw [hres] at h; exact h) fun w' h => herr k w' hres h
theorem Ends.ok {α : Type} {E : TypeId} {res : Except Int α} {V : α → Value} {S : α → World → Prop} {S' : World → Prop} {e : Ending} {w : World} (a : α) (h : res = .ok a) (he : e = .returned (V a)) (hs : S a w) : Ends E res V S S' e w := by
 unfold Ends; rw [h]; exact ⟨he, hs⟩
theorem Ends.err {α : Type} {E : TypeId} {res : Except Int α} {V : α → Value} {S : α → World → Prop} {S' : World → Prop} {w : World} (k : Int) (h : res = .error k) (hs : S' w) : Ends E res V S S' (.panicked [{ v := .iface E (.int .i64 k), recovered := false }]) w := by
 unfold Ends; rw [h]; exact ⟨rfl, hs⟩
end
end
section
theorem W.norm {P : Program} {fn : Func} {R : Ending → World → Prop} {f : Fr} {w : World} (h : Post P fn R .ret f w) : Post P fn R .normal f w := by unfold Post at *; exact h
theorem W.retc1 {P : Program} {fn : Func} {R : Ending → World → Prop} {f : Fr} {w : World} {t : Tmp} {ty : TypeId} {b : Addr} {v : Value} (hr : fn.results = #[.cell t ty])
  (ht : look f t = some (.pointer (some b))) (hv : (loadVar ty b).run P w = .ok v w) (h : R (.returned v) w) : Post P fn R .ret f w := by
 unfold Post
 exact ⟨_, fun tmps hh => by
  have a := hh _ _ ht
  simp only [Array.getD_eq_getD_getElem?] at a
  simp [results, hr, a, asAddr, hv], h⟩
section
variable {P : Program} {n : Sh} {f : Fr}
def pPart (p : Option Addr) (c a : Nat) : Option Addr := if c = a then p else p.map (·.add a)
theorem Pure.slb {tx e : TypeId} {x y z : Operand} {p : Option Addr} {m c : Nat} {i j : Int} (hu : P.underlying tx = some (.slice e)) (hs : ∀ w, (sizeOf e).run P w = .ok 1 w) (hx : evo f x = some (.slice p m c))
  (hi : evo f y = some (.int .i64 i)) (hj : evo f z = some (.int .i64 j)) (a b : Nat) (ei : i = a) (ej : j = b) (hab : a ≤ b) (hbc : b ≤ c) :
  Pure P (.slice tx x (some y) (some z) none) f (.slice (pPart p c a) (b - a) (c - a)) := fun ρ hρ d ty pos aft g w => by
 subst ei; subst ej
 have h1 : (a : Int) ≤ (b : Int) := by omega
 simp [execOp, Instr.sliceAt, Instr.slice, Instr.sliceBounds, run_sliceBound, hρ _ _ hx, hρ _ _ hi, hρ _ _ hj, run_underlying hu, hs, hbc, hab, pPart]
theorem Pure.slbF {tx e : TypeId} {x y : Operand} {p : Option Addr} {m c : Nat} {i : Int} (hu : P.underlying tx = some (.slice e)) (hs : ∀ w, (sizeOf e).run P w = .ok 1 w) (hx : evo f x = some (.slice p m c))
  (hi : evo f y = some (.int .i64 i)) (a : Nat) (ei : i = a) (ham : a ≤ m) :
  Pure P (.slice tx x (some y) none none) f (.slice (pPart p c a) (m - a) (c - a)) := fun ρ hρ d ty pos aft g w => by
 subst ei
 simp [execOp, Instr.sliceAt, Instr.slice, Instr.sliceBounds, run_sliceBound, hρ _ _ hx, hρ _ _ hi, run_underlying hu, hs, ham, pPart]
theorem BytesAt.part {w : World} {p : Option Addr} {l : List UInt8} {c a b : Nat} (h : BytesAt w p l) (hab : a ≤ b) (hb : b ≤ l.length) (hc : l.length ≤ c) : BytesAt w (pPart p c a) ((l.drop a).take (b - a)) := by
  have d : ((l.drop a).take (b - a)).length = b - a := by rw [List.length_take, List.length_drop]; omega
  by_cases h0 : a = b
  · refine ⟨fun h => ?_, fun j hj => ?_⟩ <;> rw [d] at * <;> omega
  · have hp := h.isp oO
    have e : pPart p c a = some ((pA p).add a) := by unfold pPart; rw [if_neg oO]; rw [hp]; rfl
    rw [e]
    refine ⟨fun _ => rfl, fun j hj => ?_⟩
    rw [d] at hj
    show w.cell? (((pA p).add a).add j) = _
    rw [add_add, h.cells (a + j) oO]
    simp
theorem part_len {l : List UInt8} {a b : Nat} (hb : b ≤ l.length) : ((l.drop a).take (b - a)).length = b - a := by rw [List.length_take, List.length_drop]; omega
theorem Rd.b2sPart {tx ty e : TypeId} {x : Operand} {p : Option Addr} {l : List UInt8} {a b c c' m : Nat} {w : World} (hu : P.underlying tx = some (.slice e)) (he : P.underlying e = some (.int .u8)) (ht : P.underlying ty = some .string)
  (hx : evo f x = some (.slice (pPart p c a) m c')) (hm : m = b - a) (hb : BytesAt w p l) (hab : a ≤ b) (hbl : b ≤ l.length) (hc : l.length ≤ c) : Rd P (.convert tx ty x) f w (.string (bs ((l.drop a).take (b - a)))) := by
 subst hm
 refine Rd.b2s (c := c') hu he ht ?_ (hb.part hab hbl hc)
 rw [part_len hbl]; exact hx
theorem Rd.iis {op : Op} {w : World} {k : IntKind} {s : Int} (t : Int) (h : Rd P op f w (.int k s)) (e : s = t) : Rd P op f w (.int k t) := e ▸ h
theorem WL.appm {ops : Array Oper} {Q : Exit → Fr → World → Prop} {w : World} {rest : List Oper} {d ty : Nat} {pos : String} {aft : Array Edge} {s x : Operand} {t e : TypeId} {B : Nat} {z v u : Value} {xs : List Value} {b c by' : Nat} {tb : TypeId}
  (ht : P.underlying t = some (.slice e)) (hi : (P.info? e).map (fun i => (i.zero, i.size, i.bytes)) = some (some z, 1, by')) (hby2 : Nat.ble by' 16 = true) (hzs : z.cells.size = 1)
  (hs : evo f s = some v) (hown : Own e B w v xs) (hx : evo f x = some (.slice (some ⟨b, 0, none⟩) 1 c)) (hb : Blk w b #[u] tb) (h1 : u.oneCell' = true)
  (hn : xs.length ≤ 1000000000) (hB : B ≤ w.heap.size) (hd : Nat.blt d n.n = true)
  (k : ∀ v' w', Own e B w' v' (xs ++ [u]) → Below B w w' → w.grownBy w' v.ownBlock → WL P n ops Q rest ((d, v') :: f) w') :
  WL P n ops Q (⟨some d, .call ⟨.builtin .append, #[s, x], #[t, t]⟩, ty, pos, aft, none⟩ :: rest) f w := by
 cases hh : P.info? e with
 | none => rw [hh] at hi; cases hi
 | some i =>
  rw [hh] at hi
  simp only [Option.map_some, Option.some.injEq, Prod.mk.injEq] at hi
  exact WL.app1 ht hh hi.1 hi.2.1 hi.2.2 (by simpa using hby2) hzs hs hown hx hb h1 hn hB hd k
theorem byteVals_len (l : List UInt8) : (byteVals l).length = l.length := by simp [byteVals]
theorem Own.snoc {e : TypeId} {B : Nat} {w : World} {v : Value} {l : List UInt8} {x : Int} (h : Own e B w v (byteVals l ++ [.int .u8 x])) (c : UInt8) (hc : x = (c.toNat : Int)) : Own e B w v (byteVals (l ++ [c])) := by
 have : byteVals (l ++ [c]) = byteVals l ++ [.int .u8 x] := by simp [byteVals, hc]
 rw [this]; exact h
end
end
section
open Go.RowKit Go.WideShapes Go.ChangeShapes
section
variable {P : Program} {n : Sh} {f : Fr}
theorem WL.bsl0 {ops : Array Oper} {Q : Exit → Fr → World → Prop} {w : World} {rest : List Oper} {d ty : Nat} {pos : String} {aft : Array Edge} {t e : TypeId} {sz : Nat}
  (hu : P.underlying t = some (.slice e)) (hs : ∀ w, (sizeOf e).run P w = .ok sz w) (hd : Nat.blt d n.n = true)
  (k : ∀ b w1, b = w.heap.size → (∀ B, B ≤ b → w1.ownsRow B e sz (.slice (some ⟨b, 0, none⟩) 0 0) 0 []) → Upd b w w1 → w1.heap.size = b + 1 → WL P n ops Q rest ((d, .slice (some ⟨b, 0, none⟩) 0 0) :: f) w1) :
  WL P n ops Q (⟨some d, .buildSlice t 0 [].toArray, ty, pos, aft, none⟩ :: rest) f w := by
 refine WL.run hd (w' := w.alloc (.cells #[] e)) (v := .slice (some ⟨w.heap.size, 0, none⟩) 0 0) (fun ρ hρ => ?_)
  (k _ _ rfl (fun B hB => ⟨by simp, .inr ⟨w.heap.size, 0, #[], rfl, hB, Blk.alloc _ _ _, nr_ _, by unfold maxLen; omega, by simp, by simp⟩⟩) (Upd.alloc _ _) (by simp))
 unfold execOp
 have a : Array.map (fun _ => (default : Value)) (Array.range 0) = #[] := by simp
 simp [Instr.buildSlice, run_underlying hu, hs, Instr.fill, a, newRow]
theorem WL.appB {ops : Array Oper} {Q : Exit → Fr → World → Prop} {w : World} {rest : List Oper} {d ty : Nat} {pos : String} {aft : Array Edge} {s x : Operand} {t e : TypeId} {B : Nat} {z v : Value} {xs : List Value} {p : Option Addr} {l : List UInt8} {c by' : Nat}
    (ht : P.underlying t = some (.slice e)) (hi : (P.info? e).map (fun i => (i.zero, i.size, i.bytes)) = some (some z, 1, by')) (hby2 : Nat.ble by' 16 = true) (hzs : z.cells.size = 1)
    (hs : evo f s = some v) (hown : Own e B w v xs) (hx : evo f x = some (.slice p l.length c)) (hb : BytesAt w p l)
    (hn : xs.length + l.length ≤ 1000000000) (hB : B ≤ w.heap.size) (hd : Nat.blt d n.n = true) (hc : l = [] → c = 0 ∨ p ≠ none)
    (k : ∀ v' w', Own e B w' v' (xs ++ byteVals l) → Below B w w' → w.grownBy w' v.ownBlock → WL P n ops Q rest ((d, v') :: f) w') :
    WL P n ops Q (⟨some d, .call ⟨.builtin .append, #[s, x], #[t, t]⟩, ty, pos, aft, none⟩ :: rest) f w := by
  cases hh : P.info? e with
  | none => rw [hh] at hi; cases hi
  | some i =>
    rw [hh] at hi; simp only [Option.map_some, Option.some.injEq, Prod.mk.injEq] at hi; obtain ⟨hz, b, o⟩ := hi; have g : by' ≤ 16 := by simpa using hby2
    cases hp : p with
    | none =>
      have hl : l = [] := by
        cases l with
        | nil => rfl
        | cons a r => have := hb.isp (by simp); rw [hp] at this; cases this
      have q : c = 0 := (hc hl).resolve_right (fun h => h hp); subst hp; subst hl; subst q; have m := run_append_owned_none (P := P) (w := w) B t ty e i 1 ht hh v xs.length xs hown; refine WL.run hd (w' := w) (v := v) (fun ρ hρ => ?_) (k v w (by simpa [byteVals] using hown) (br_ _ _) ⟨rfl, rfl, rfl, nr_ _, fun _ _ _ => rfl⟩); unfold execOp; simp only [resolve, invoke, builtin, Sem.run_bind, Sem.run_pure, Result.andThen_ok, List.map_toArray, List.map_cons, List.map_nil, hρ _ _ hs, hρ _ _ hx, List.length_nil, m]
    | some a =>
      subst hp; obtain ⟨v', w', m, C, A, -⟩ := run_append_own (P := P) (w := w) B t ty e i z 1 by' ht hh hz b o hzs dD v xs.length xs hown a l.length c (byteVals l) (by simp [byteVals])
        (fun j y hj => by
          have hj' : j < l.length := by
            rcases Nat.lt_or_ge j l.length with h | h
            · exact h
            · rw [List.getElem?_eq_none (by rw [byteVals_len]; omega)] at hj; cases hj
          have := hb.cells j hj'; rw [show pA (some a) = a from rfl] at this; rw [this]; rw [← hj]; simp [byteVals, hj'])
        (fun u hu => by simp only [byteVals, List.mem_map] at hu; obtain ⟨y, -, rfl⟩ := hu; rfl) (by unfold maxLen; omega) (by
          have : (xs.length + l.length) * by' ≤ (xs.length + l.length) * 16 := Nat.mul_le_mul_left _ g
          omega) hB
      refine WL.run hd (w' := w') (v := v') (fun ρ hρ => ?_) (k v' w' ?_ ((br_ _ _).grown A hB fun k hk => (hown.lt k hk).1) A)
      · unfold execOp
        simp only [resolve, invoke, builtin, Sem.run_bind, Sem.run_pure, Result.andThen_ok, List.map_toArray, List.map_cons, List.map_nil, hρ _ _ hs, hρ _ _ hx, m]
      · have D : (xs ++ byteVals l).length = xs.length + l.length := by simp [byteVals]
        unfold Own; rw [D]; exact C
theorem Own.bytesC {e : TypeId} {B : Nat} {w : World} {v : Value} {l : List UInt8} (h : Own e B w v (byteVals l)) : ∃ p c, v = .slice p l.length c ∧ BytesAt w p l ∧ (0 < l.length → B ≤ (pA p).block) ∧ l.length ≤ c ∧ (l = [] → c = 0 ∨ p ≠ none) := by
 obtain ⟨p, c, hv, hb, hB⟩ := h.bytes
 have b : (byteVals l).length = l.length := by simp [byteVals]
 obtain ⟨hl, h⟩ := h
 rcases h with ⟨rfl, f⟩ | ⟨g, cap, cur, rfl, -, -, d, -⟩
 ·
  simp only [Value.slice.injEq] at hv
  obtain ⟨rfl, a, rfl⟩ := hv
  exact ⟨none, 0, by rw [← a], hb, hB, by omega, fun _ => .inl rfl⟩
 ·
  simp only [Value.slice.injEq] at hv
  obtain ⟨rfl, a, rfl⟩ := hv
  exact ⟨_, _, by rw [a], hb, hB, by omega, fun _ => .inr (by simp)⟩
end
theorem Drew.le {w w1 : World} {B : Nat} (h : B ≤ w.heap.size) (d : Drew w w1) : B ≤ w1.heap.size := by rw [d.size]; exact h
theorem WL.cvB {P : Program} {n : Sh} {f : Fr} {ops : Array Oper} {Q : Exit → Fr → World → Prop} {w : World} {rest : List Oper} {d ty : Nat} {pos : String} {aft : Array Edge} {x : Operand} {t e tb : TypeId} {b len cap : Nat} {cs : Array Value} (l : List UInt8)
  (ht : P.underlying t = some (.slice e)) (he : P.underlying e = some (.int .u8)) (hx : evo f x = some (.slice (some ⟨b, 0, none⟩) len cap)) (hb : Blk w b cs tb) (hl : cs = (byteVals l).toArray) (hd : Nat.blt d n.n = true)
  (k : ∀ w1, BytesAt w1 (some ⟨b, 0, none⟩) l → Upd b w w1 → w1.heap.size = w.heap.size → WL P n ops Q rest ((d, .slice (some ⟨b, 0, none⟩) len cap) :: f) w1) :
  WL P n ops Q (⟨some d, .convert t t x, ty, pos, aft, none⟩ :: rest) f w := by
 have g : w.shape? b = some (tb, cs.size) := by unfold World.shape?; rw [show w.heap[b]? = _ from hb]
 have q := hb.lt
 have a : (w.freeze ⟨b, cs.size, none⟩ 1).heap = w.heap.modify b fun
   | .cells c elem (lo, hi) => .cells c elem (if lo == hi then (cs.size, cs.size + 1) else (min lo cs.size, max hi (cs.size + 1)))
   | o => o := rfl
 have i : (w.freeze ⟨b, cs.size, none⟩ 1).heap[b]? = some (.cells cs tb (cs.size, cs.size + 1)) := by
  rw [a, Array.getElem?_modify, if_pos rfl, show w.heap[b]? = _ from hb]; rfl
 have hu : Upd b w (w.freeze ⟨b, cs.size, none⟩ 1) := ⟨rfl, rfl, rfl, by rw [a]; simp, fun k hk => by rw [a, Array.getElem?_modify, if_neg (Ne.symm hk)]⟩
 refine WL.run hd (w' := w.freeze ⟨b, cs.size, none⟩ 1) (v := .slice (some ⟨b, 0, none⟩) len cap) (fun ρ hρ => ?_) (k _ ?_ hu (by rw [a]; simp))
 ·
  unfold execOp; simp [hρ _ _ hx, convert, run_underlying ht, run_underlying he, markStringish, g]
 ·
  subst hl; refine ⟨fun _ => rfl, fun j hj => ?_⟩; have m : (pA (some ⟨b, 0, none⟩)).add j = ⟨b, j, none⟩ := by
   show (⟨b, 0, none⟩ : Addr).add j = _
   unfold Addr.add; split
   ·
    next h => subst h; rfl
   ·
    simp
  rw [m, Lib.cell_of_heap i j]; simp [byteVals, hj]
theorem open_bytes {H : Type} {enc : TypeId × Value → H} {P : Program} {w : World} {base : Nat} {held : Bool} {r : Reach} {b0 : Nat} {t e : TypeId} {v : Value} {d : DataW H} {ps : List MemPlace} (ht : P.underlying t = some (.slice e)) (he : P.underlying e = some (.int .u8)) (hc : P.cellsOf e = 1)
  (hval : Value.okWide P w r b0 t v) (hd : DataW.Trod enc P w base (fun _ => true) held t v d ps) :
  ∃ p l c, v = .slice p (l : List UInt8).length c ∧ BytesAt w p l ∧ l.length ≤ c ∧ (l = [] → c = 0 ∨ p ≠ none) ∧ c ≤ maxLen := by
 obtain ⟨q, len, cap, rfl⟩ := okWide_slice ht hval
 obtain ⟨fuel, hf⟩ := hd
 rcases open_ints ht he hc hf with ⟨b, -⟩ | ⟨a, m, n, zs, b, _, hl, hm, hz, hx, g, k⟩
 ·
  simp [Value.cells] at b
  obtain ⟨rfl, rfl, rfl⟩ := b
  exact ⟨none, [], 0, rfl, BytesAt.nil w, nr_ _, fun _ => .inl rfl, by unfold maxLen; omega⟩
 ·
  simp [Value.cells] at b
  obtain ⟨rfl, rfl, rfl⟩ := b
  simp only [if_true] at hz
  have f : ((zs.take len).map fun z => z.toNat.toUInt8).length = len := by simp; omega
  refine ⟨some a, (zs.take len).map fun z => z.toNat.toUInt8, cap, by rw [f], ⟨fun _ => rfl, fun j hj => ?_⟩, by omega, fun _ => .inr (by simp), hm⟩
  rw [f] at hj
  have i : j < zs.length := by omega
  rw [show pA (some a) = a from rfl, g j i]
  have hw := k (zs[j]) (List.getElem_mem _)
  have o : 0 ≤ zs[j] ∧ zs[j] ≤ 255 := by
   simp only [Lit.wf, Bool.and_eq_true, decide_eq_true_eq] at hw
   exact hw
  simp only [List.getElem_map, List.getElem_take, List.getD, List.getElem?_eq_getElem i, Option.getD_some, Option.some.injEq, Value.int.injEq, true_and]
  have e : (zs[j].toNat.toUInt8).toNat = zs[j].toNat % 256 := by simp
  rw [e]; omega
theorem trod_keep {H : Type} {enc : TypeId × Value → H} {P : Program} {t : TypeId} (hl : laidOutB P = true) (hr : P.readableRec t = true) (hrow : decide (t < P.types.size) = true) {W W' : World} {v : Value} {d : DataW H} {ps : List MemPlace}
  (h : DataW.Trod enc P W 0 (fun _ => true) true t v d ps) (hb : Below W.heap.size W W') (hlt : ∀ x ∈ ps, x.block < W.heap.size) :
  DataW.Trod enc P W' 0 (fun b => decide (b < W.heap.size)) true t v d ps := Below.trod hl hr (dT hrow) h hb hlt
end
section
open Go.RowKit Go.WideShapes Go.ChangeShapes
section
variable {P : Program} {n : Sh} {f : Fr}
theorem WL.s2b {ops : Array Oper} {Q : Exit → Fr → World → Prop} {w : World} {rest : List Oper} {d ty : Nat} {pos : String} {aft : Array Edge} {x : Operand} {src dst e : TypeId} {l : List UInt8}
  (hs : P.underlying src = some .string) (hd' : P.underlying dst = some (.slice e)) (he : P.underlying e = some (.int .u8)) (hx : evo f x = some (.string (bs l))) (hd : Nat.blt d n.n = true)
  (k : ∀ b w1 c, b = w.heap.size → BytesAt w1 (some ⟨b, 0, none⟩) l → l.length ≤ c → Upd b w w1 → w1.heap.size = b + 1 → WL P n ops Q rest ((d, .slice (some ⟨b, 0, none⟩) l.length c) :: f) w1) :
  WL P n ops Q (⟨some d, .convert src dst x, ty, pos, aft, none⟩ :: rest) f w := by
 have g := Lib.run_convert_string_bytes (P := P) w src dst e (bs l) hs hd' he
 have a : (bs l).size = l.length := by simp [bs, ByteArray.size]
 have hu : Upd w.heap.size w (Lib.bytesWorld w e (bs l)) := ⟨rfl, rfl, rfl, by rw [Lib.bytesWorld_size]; omega, fun j hj => by
  rcases Nat.lt_or_ge j w.heap.size with h | h
  ·
   exact Lib.bytesWorld_at_old w e (bs l) j h
  ·
   rw [Array.getElem?_eq_none (by rw [Lib.bytesWorld_size]; omega), Array.getElem?_eq_none h]⟩
 refine WL.run hd (w' := Lib.bytesWorld w e (bs l)) (v := .slice (some ⟨w.heap.size, 0, none⟩) l.length (grownCap w l.length 0 e)) (fun ρ hρ => ?_)
  (k _ _ _ rfl ⟨fun _ => rfl, fun j hj => ?_⟩ (grownCap_ge w l.length 0 e) hu (Lib.bytesWorld_size w e (bs l)))
 ·
  unfold execOp; simp only [hρ _ _ hx, Sem.run_bind, g, Result.andThen_ok, Sem.run_pure, a]
 ·
  have i : (pA (some ⟨w.heap.size, 0, none⟩)).add j = ⟨w.heap.size, j, none⟩ := by
   show (⟨w.heap.size, 0, none⟩ : Addr).add j = _
   unfold Addr.add; split
   ·
    next h => rw [h]
   ·
    simp
  rw [i, Lib.bytesWorld_cell w e (bs l) j (by rw [a]; exact hj)]; simp [bs, List.getD, hj]
theorem Own.lit {w : World} {b m : Nat} {cs : Array Value} {e : TypeId} (h : Blk w b cs e) (hm : cs.size = m) (hl : m ≤ maxLen) : Own e b w (.slice (some ⟨b, 0, none⟩) m m) cs.toList := by
 subst hm
 refine ⟨by simp, .inr ⟨b, cs.size, cs, ?_, nr_ _, h, by simp, hl, by simp, by rw [List.take_of_length_le (by simp)]⟩⟩
 simp
end
structure RowAt {α : Type} (V : α → Value) (w : World) (p : Option Addr) (l : List α) : Prop where
 isp : 0 < l.length → p = some (pA p)
 cells : ∀ j (h : j < l.length), w.cell? ((pA p).add j) = some (V l[j])
section
variable {α : Type} {V : α → Value}
theorem RowAt.lt {w : World} {p : Option Addr} {l : List α} (h : RowAt V w p l) (h0 : 0 < l.length) : (pA p).block < w.heap.size := by
 have := h.cells 0 h0
 rcases Nat.lt_or_ge (pA p).block w.heap.size with h' | h'
 ·
  exact h'
 ·
  exfalso
  have hb : ((pA p).add 0).block = (pA p).block := add_block _ _
  unfold World.cell? at this
  rw [hb, Array.getElem?_eq_none h'] at this
  cases this
theorem RowAt.below {w w1 : World} {B : Nat} {p : Option Addr} {l : List α} (h : RowAt V w p l) (hb : Below B w w1) (hp : 0 < l.length → (pA p).block < B) : RowAt V w1 p l :=
 ⟨h.isp, fun j hj => by rw [World.cell?_of_block (w := w) (hb.block _ (by rw [add_block]; exact hp oO))]; exact h.cells j hj⟩
theorem RowAt.upd {w w1 : World} {b : Nat} {p : Option Addr} {l : List α} (h : RowAt V w p l) (hu : Upd b w w1) (hp : 0 < l.length → (pA p).block ≠ b) : RowAt V w1 p l :=
 ⟨h.isp, fun j hj => by rw [World.cell?_of_block (w := w) (hu.other _ (by rw [add_block]; exact hp oO))]; exact h.cells j hj⟩
theorem RowAt.drewN {w : World} {p : Option Addr} {l : List α} (h : RowAt V w p l) (m : Nat) : RowAt V (w.drewN m) p l := ⟨h.isp, h.cells⟩
theorem RowAt.drew {w w1 : World} {p : Option Addr} {l : List α} (h : RowAt V w p l) (d : Drew w w1) : RowAt V w1 p l := by obtain ⟨m, rfl⟩ := d; exact h.drewN m
theorem RowAt.nil (w : World) : RowAt V w none [] := ⟨fun h => by simp at h, fun j h => by simp at h⟩
theorem RowAt.lit {w : World} {b : Nat} {cs : Array Value} {t : TypeId} {l : List α} (h : Blk w b cs t) (e : cs = (l.map V).toArray) : RowAt V w (some ⟨b, 0, none⟩) l := by
 subst e
 refine ⟨fun _ => rfl, fun j hj => ?_⟩
 have a : (pA (some ⟨b, 0, none⟩)).add j = ⟨b, j, none⟩ := by
  show (⟨b, 0, none⟩ : Addr).add j = _
  unfold Addr.add; split
  ·
   next h => subst h; rfl
  ·
   simp
 rw [a, h.cell j]
 simp [hj]
end
abbrev strV (s : List UInt8) : Value := .string (bs s)
end
section
open Go.RowKit Go.WideShapes Go.ChangeShapes
structure Raw (w : World) (b c : Nat) (e : TypeId) (l : List UInt8) : Prop where
 cur : ∃ cur : Array Value, w.heap[b]? = some (.cells cur e (cur.size, cur.size + 1)) ∧ cur.size = c ∧ cur.toList.take l.length = byteVals l
 le : l.length ≤ c
end
section
open Go.RowKit Go.WideShapes Go.ChangeShapes
section
variable {P : Program} {n : Sh} {f : Fr}
theorem Pure.slS {tx : TypeId} {x y z : Operand} {l : List UInt8} {kd ke : IntKind} {i j : Int} (hu : P.underlying tx = some .string) (hx : evo f x = some (.string (bs l))) (hi : evo f y = some (.int kd i)) (hj : evo f z = some (.int ke j)) (a b : Nat) (ei : i = a) (ej : j = b) (hab : a ≤ b) (hb : b ≤ l.length) :
  Pure P (.slice tx x (some y) (some z) none) f (.string (bs ((l.drop a).take (b - a)))) := fun ρ hρ d ty pos aft g w => by
 subst ei; subst ej
 have h3 : ¬ (b < a) := by omega
 simp [execOp, Instr.sliceAt, Instr.slice, Instr.sliceBounds, Instr.sliceBound, hρ _ _ hx, hρ _ _ hi, hρ _ _ hj, asIntOf, run_underlying hu, hab, hb, h3, fbs_extract, bs_size]
end
end
section
open Go.RowKit Go.WideShapes Go.ChangeShapes
theorem add_lit (b o j : Nat) : (⟨b, o, none⟩ : Addr).add j = ⟨b, o + j, none⟩ := by
 unfold Addr.add; split <;> simp_all
structure Lay (α : Type) where
 m : Nat
 V : α → List Value
 pos : 0 < m
 len : ∀ x, (V x).length = m
 one : ∀ x, ∀ v ∈ V x, v.oneCell' = true
variable {α : Type}
def Lay.flat (L : Lay α) (l : List α) : List Value := l.flatMap L.V
theorem Lay.flat_len (L : Lay α) : ∀ l : List α, (L.flat l).length = l.length * L.m
 | [] => by simp [Lay.flat]
 | x :: l => by
  have := L.flat_len l
  unfold Lay.flat at this ⊢
  simp only [List.flatMap_cons, List.length_append, L.len, this, List.length_cons, Nat.succ_mul]; omega
theorem Lay.flat_append (L : Lay α) (l k : List α) : L.flat (l ++ k) = L.flat l ++ L.flat k := by simp [Lay.flat]
theorem Lay.flat_one (L : Lay α) (l : List α) : ∀ v ∈ L.flat l, v.oneCell' = true := by
 intro v hv
 simp only [Lay.flat, List.mem_flatMap] at hv
 obtain ⟨x, -, h⟩ := hv
 exact L.one x v h
theorem Lay.flat_at (L : Lay α) : ∀ (l : List α) (j : Nat) (h : j < l.length) (i : Nat), i < L.m → (L.flat l)[j * L.m + i]? = (L.V l[j])[i]?
 | x :: l, 0, h, i, hi => by
  simp only [Lay.flat, List.flatMap_cons, Nat.zero_mul, Nat.zero_add, List.getElem_cons_zero]
  rw [List.getElem?_append_left (by rw [L.len]; exact hi)]
 | x :: l, j + 1, h, i, hi => by
  have ih := L.flat_at l j (by simpa using h) i hi
  simp only [Lay.flat, List.flatMap_cons, List.getElem_cons_succ] at ih ⊢
  rw [List.getElem?_append_right (by rw [L.len, Nat.succ_mul]; omega), L.len, ← ih]
  congr 1
  rw [Nat.succ_mul]; omega
theorem Lay.flat_take (L : Lay α) (l : List α) (k : Nat) : (L.flat l).take (k * L.m) = L.flat (l.take k) := by
 induction l generalizing k with
 | nil => simp [Lay.flat]
 | cons x l ih =>
  cases k with
  | zero => simp [Lay.flat]
  | succ k =>
   have := ih k
   simp only [Lay.flat, List.flatMap_cons, List.take_succ_cons] at this ⊢
   rw [List.take_append, L.len, List.take_of_length_le (by rw [L.len, Nat.succ_mul]; omega), ← this]
   congr 2
   rw [Nat.succ_mul]; omega
theorem Lay.flat_drop (L : Lay α) (l : List α) (k : Nat) : (L.flat l).drop (k * L.m) = L.flat (l.drop k) := by
 induction l generalizing k with
 | nil => simp [Lay.flat]
 | cons x l ih =>
  cases k with
  | zero => simp [Lay.flat]
  | succ k =>
   have := ih k
   simp only [Lay.flat, List.flatMap_cons, List.drop_succ_cons] at this ⊢
   rw [List.drop_append, L.len, List.drop_of_length_le (by rw [L.len, Nat.succ_mul]; omega), List.nil_append, ← this]
   congr 1
   rw [Nat.succ_mul]; omega
structure RowM (L : Lay α) (w : World) (p : Option Addr) (l : List α) : Prop where
 isp : 0 < l.length → p = some (pA p)
 cells : ∀ j (h : j < l.length) i, i < L.m → w.cell? ((pA p).add (j * L.m + i)) = (L.V l[j])[i]?
section
variable {L : Lay α}
theorem RowM.flat {w : World} {p : Option Addr} {l : List α} (h : RowM L w p l) : ∀ k v, (L.flat l)[k]? = some v → w.cell? ((pA p).add k) = some v := by
 intro k v hk
 have a : k < (L.flat l).length := by
  rcases Nat.lt_or_ge k (L.flat l).length with h | h
  ·
   exact h
  ·
   rw [List.getElem?_eq_none h] at hk; cases hk
 rw [L.flat_len] at a
 have hj : k / L.m < l.length := (Nat.div_lt_iff_lt_mul L.pos).2 a
 have hi := Nat.mod_lt k L.pos
 have e : k / L.m * L.m + k % L.m = k := Nat.div_add_mod' k L.m
 have b := L.flat_at l (k / L.m) hj (k % L.m) hi
 have c := h.cells (k / L.m) hj (k % L.m) hi
 rw [e] at b c
 rw [c, ← b, hk]
theorem RowM.of_flat {w : World} {p : Option Addr} {l : List α} (hp : 0 < l.length → p = some (pA p)) (h : ∀ k v, (L.flat l)[k]? = some v → w.cell? ((pA p).add k) = some v) : RowM L w p l :=
 ⟨hp, fun j hj i hi => by
  have h1 := L.flat_at l j hj i hi
  have h2 : i < (L.V l[j]).length := by rw [L.len]; exact hi
  rw [List.getElem?_eq_getElem h2] at h1 ⊢
  exact h _ _ h1⟩
theorem RowM.lt {w : World} {p : Option Addr} {l : List α} (h : RowM L w p l) (h0 : 0 < l.length) : (pA p).block < w.heap.size := by
 have hc := h.cells 0 h0 0 L.pos
 rw [List.getElem?_eq_getElem (by rw [L.len]; exact L.pos)] at hc
 rcases Nat.lt_or_ge (pA p).block w.heap.size with h' | h'
 ·
  exact h'
 ·
  exfalso
  have hb : ((pA p).add (0 * L.m + 0)).block = (pA p).block := add_block _ _
  unfold World.cell? at hc
  rw [hb, Array.getElem?_eq_none h'] at hc
  cases hc
theorem RowM.same {w w1 : World} {p : Option Addr} {l : List α} (h : RowM L w p l) (hb : 0 < l.length → w1.heap[(pA p).block]? = w.heap[(pA p).block]?) : RowM L w1 p l :=
 ⟨h.isp, fun j hj i hi => by rw [World.cell?_of_block (w := w) (by rw [add_block]; exact hb oO)]; exact h.cells j hj i hi⟩
theorem RowM.below {w w1 : World} {B : Nat} {p : Option Addr} {l : List α} (h : RowM L w p l) (hb : Below B w w1) (hp : 0 < l.length → (pA p).block < B) : RowM L w1 p l := h.same fun h0 => hb.block _ (hp h0)
abbrev rb_ := @RowM.below
theorem RowM.upd {w w1 : World} {b : Nat} {p : Option Addr} {l : List α} (h : RowM L w p l) (hu : Upd b w w1) (hp : 0 < l.length → (pA p).block ≠ b) : RowM L w1 p l := h.same fun h0 => hu.other _ (hp h0)
theorem RowM.drewN {w : World} {p : Option Addr} {l : List α} (h : RowM L w p l) (m : Nat) : RowM L (w.drewN m) p l := ⟨h.isp, h.cells⟩
theorem RowM.drew {w w1 : World} {p : Option Addr} {l : List α} (h : RowM L w p l) (d : Drew w w1) : RowM L w1 p l := by obtain ⟨m, rfl⟩ := d; exact h.drewN m
theorem RowM.nil (w : World) : RowM L w none [] := ⟨fun h => by simp at h, fun j h => by simp at h⟩
def pPartM (m : Nat) (p : Option Addr) (c a : Nat) : Option Addr := if c = a then p else p.map (·.add (a * m))
theorem RowM.part {w : World} {p : Option Addr} {l : List α} {c a b : Nat} (h : RowM L w p l) (hab : a ≤ b) (hb : b ≤ l.length) (hc : l.length ≤ c) : RowM L w (pPartM L.m p c a) ((l.drop a).take (b - a)) := by
  have d : ((l.drop a).take (b - a)).length = b - a := by rw [List.length_take, List.length_drop]; omega
  by_cases h0 : a = b
  · refine ⟨fun h => ?_, fun j hj => ?_⟩ <;> rw [d] at * <;> omega
  · have hp := h.isp oO
    have e : pPartM L.m p c a = some ((pA p).add (a * L.m)) := by unfold pPartM; rw [if_neg oO]; rw [hp]; rfl
    rw [e]
    refine ⟨fun _ => rfl, fun j hj i hi => ?_⟩
    rw [d] at hj
    show w.cell? (((pA p).add (a * L.m)).add (j * L.m + i)) = _
    rw [add_add, show a * L.m + (j * L.m + i) = (a + j) * L.m + i by rw [Nat.add_mul]; omega, h.cells (a + j) oO i hi]
    simp
def OwnM (L : Lay α) (e : TypeId) (B : Nat) (w : World) (v : Value) (l : List α) : Prop :=
 (v = .slice none 0 0 ∧ l = []) ∨ ∃ g cap cur, v = .slice (some ⟨g, 0, none⟩) l.length cap ∧ B ≤ g ∧ w.heap[g]? = some (.cells cur e (0, 0)) ∧ l.length ≤ cap ∧ cap ≤ maxLen ∧ cap * L.m ≤ cur.size ∧ cur.toList.take (l.length * L.m) = L.flat l
theorem OwnM.nil (L : Lay α) (e : TypeId) (B : Nat) (w : World) : OwnM L e B w (.slice none 0 0) [] := .inl ⟨rfl, rfl⟩
theorem OwnM.of {e : TypeId} {B : Nat} {w : World} {v : Value} {l : List α} (h : w.ownsRow B e L.m v l.length (L.flat l)) : OwnM L e B w v l := by
 obtain ⟨hl, h⟩ := h
 rcases h with ⟨rfl, a⟩ | ⟨g, cap, cur, b, c, d, f, i, k, j⟩
 ·
  exact .inl ⟨rfl, List.length_eq_zero_iff.1 a⟩
 ·
  exact .inr ⟨g, cap, cur, b, c, d, f, i, by omega, j⟩
theorem OwnM.row {e : TypeId} {B : Nat} {w : World} {v : Value} {l : List α} (h : OwnM L e B w v l) : ∃ p c, v = .slice p l.length c ∧ RowM L w p l ∧ (∀ a, p = some a → B ≤ a.block) ∧ l.length ≤ c ∧ (l = [] → c = 0 ∨ p ≠ none) ∧ v.ownBlock = p.map (·.block) ∧ c ≤ maxLen ∧ (p = none ∨ ∃ g, p = some ⟨g, 0, none⟩) := by
  rcases h with ⟨rfl, rfl⟩ | ⟨g, cap, cur, rfl, hB, hg, f, i, n, b⟩
  · exact ⟨none, 0, rfl, RowM.nil w, fun a h => (by cases h), nr_ _, fun _ => .inl rfl, rfl, (by unfold maxLen; omega), .inl rfl⟩
  · refine ⟨_, cap, rfl, RowM.of_flat (fun _ => rfl) fun k v hk => ?_, fun a h => (by cases h; exact hB), f, fun _ => .inr (by simp), rfl, i, .inr ⟨g, rfl⟩⟩
    show w.cell? ((⟨g, 0, none⟩ : Addr).add k) = _
    rw [add_lit, Nat.zero_add, Lib.cell_of_heap hg k, ← Array.getElem?_toList]
    have j : (cur.toList.take (l.length * L.m))[k]? = (L.flat l)[k]? := by rw [b]
    have d : k < (L.flat l).length := by
      rcases Nat.lt_or_ge k (L.flat l).length with h | h
      · exact h
      · rw [List.getElem?_eq_none h] at hk; cases hk
    rw [L.flat_len] at d
    rw [List.getElem?_take, if_pos d] at j
    rw [j, hk]
theorem OwnM.same {e : TypeId} {B : Nat} {w w1 : World} {v : Value} {l : List α} (h : OwnM L e B w v l) (hb : ∀ g, v.ownBlock = some g → w1.heap[g]? = w.heap[g]?) : OwnM L e B w1 v l := by
 refine h.imp id fun ⟨g, cap, cur, a, b, c, d⟩ => ⟨g, cap, cur, a, b, ?_, d⟩
 rw [hb g (by rw [a]; rfl)]; exact c
theorem OwnM.lt {e : TypeId} {B : Nat} {w : World} {v : Value} {l : List α} (h : OwnM L e B w v l) : ∀ g, v.ownBlock = some g → B ≤ g ∧ g < w.heap.size := by
 intro g hg
 rcases h with ⟨rfl, rfl⟩ | ⟨g', cap, cur, rfl, hB, a, b⟩
 ·
  cases hg
 ·
  cases hg
  exact ⟨hB, (Array.getElem?_eq_some_iff.1 a).1⟩
theorem OwnM.base {e : TypeId} {B C : Nat} {w : World} {v : Value} {l : List α} (h : OwnM L e B w v l) (hC : ∀ g, v.ownBlock = some g → C ≤ g) : OwnM L e C w v l :=
 h.imp id fun ⟨g, cap, cur, h1, h2, h3⟩ => ⟨g, cap, cur, h1, hC g (by rw [h1]; rfl), h3⟩
theorem OwnM.drew {e : TypeId} {B : Nat} {w w1 : World} {v : Value} {l : List α} (h : OwnM L e B w v l) (d : Drew w w1) : OwnM L e B w1 v l := by obtain ⟨m, rfl⟩ := d; exact h
theorem OwnM.below {e : TypeId} {B : Nat} {w w1 : World} {v : Value} {l : List α} (h : OwnM L e B w v l) (hb : Below w.heap.size w w1) : OwnM L e B w1 v l := h.same fun g hg => hb.block g (h.lt g hg).2
theorem OwnM.new {e : TypeId} {B b : Nat} {w w1 : World} {v : Value} {l : List α} (h : OwnM L e B w v l) (eb : b = w.heap.size) (hu : Upd b w w1) : OwnM L e B w1 v l := h.same fun g hg => hu.other g (by have := (h.lt g hg).2; omega)
abbrev on_ := @OwnM.new
theorem OwnM.upd {e : TypeId} {B r : Nat} {w w1 : World} {v : Value} {l : List α} (h : OwnM L e B w v l) (hu : Upd r w w1) (hr : ∀ g, v.ownBlock = some g → g ≠ r) : OwnM L e B w1 v l := h.same fun g hg => hu.other g (hr g hg)
abbrev ou_ := @OwnM.upd
theorem OwnM.touch {e : TypeId} {B r : Nat} {w w1 : World} {v : Value} {l : List α} (h : OwnM L e B w v l) (hu : Upd r w w1) (hr : r < B) : OwnM L e B w1 v l := h.same fun g hg => hu.other g (by have := (h.lt g hg).1; omega)
theorem OwnM.one {e : TypeId} {B : Nat} {w : World} {v : Value} {l : List α} (h : OwnM L e B w v l) : v.oneCell' = true := by
 rcases h with ⟨rfl, -⟩ | ⟨g, cap, cur, rfl, -⟩ <;> rfl
end
structure Keep (S : List Nat) (w w1 : World) : Prop where
 os : w1.os = w.os
 tape : w1.tape = w.tape
 output : w1.output = w.output
 size : w.heap.size ≤ w1.heap.size
 block : ∀ k, k < w.heap.size → k ∉ S → w1.heap[k]? = w.heap[k]?
structure KeepB (B : Nat) (S : List Nat) (w w1 : World) : Prop where
 os : w1.os = w.os
 tape : w1.tape = w.tape
 output : w1.output = w.output
 size : w.heap.size ≤ w1.heap.size
 block : ∀ k, k < B → k ∉ S → w1.heap[k]? = w.heap[k]?
theorem KeepB.trans {B : Nat} {S : List Nat} {a b c : World} (h : KeepB B S a b) (k : KeepB B S b c) : KeepB B S a c :=
 ⟨k.os.trans h.os, k.tape.trans h.tape, k.output.trans h.output, nt_ h.size k.size, fun i hi hr => (k.block i hi hr).trans (h.block i hi hr)⟩
abbrev kt_ := @KeepB.trans
theorem KeepB.mono {B B' : Nat} {S : List Nat} {a b : World} (h : KeepB B' S a b) (hB : B ≤ B') : KeepB B S a b := ⟨h.os, h.tape, h.output, h.size, fun i hi hS => h.block i oO hS⟩
theorem Blk.keepB {B c : Nat} {S : List Nat} {w w1 : World} {cs : Array Value} {t : TypeId} (h : Blk w c cs t) (hT : KeepB B S w w1) (hc : c < B) (hS : c ∉ S) : Blk w1 c cs t := (hT.block c hc hS).trans h
theorem RowM.keepB {L : Lay α} {B : Nat} {S : List Nat} {w w1 : World} {p : Option Addr} {l : List α} (h : RowM L w p l) (hT : KeepB B S w w1) (hp : 0 < l.length → (pA p).block < B ∧ (pA p).block ∉ S) : RowM L w1 p l := h.same fun h0 => hT.block _ (hp h0).1 (hp h0).2
abbrev rk_ := @RowM.keepB
theorem KeepB.of_below {B B' : Nat} {S : List Nat} {a b : World} (h : Below B' a b) (hB : B ≤ B') : KeepB B S a b := ⟨h.os, h.tape, h.output, h.size, fun i hi _ => h.block i oO⟩
theorem kB {S : List Nat} {a b d : World} (h : KeepB a.heap.size S a b) (hb : Below b.heap.size b d) : KeepB a.heap.size S a d := KeepB.trans h (KeepB.of_below hb h.size)
abbrev kb_ := @KeepB.of_below
theorem KeepB.of_drew {B : Nat} {S : List Nat} {a b : World} (h : Drew a b) : KeepB B S a b := kb_ (h.below (br_ B _)) (nr_ _)
abbrev kd_ := @KeepB.of_drew
theorem KeepB.of_new {B c : Nat} {S : List Nat} {a b : World} (h : Upd c a b) (hc : B ≤ c) : KeepB B S a b := ⟨h.os, h.tape, h.output, h.size, fun i hi _ => h.other i oO⟩
abbrev kn_ := @KeepB.of_new
theorem KeepB.of_mem {B c : Nat} {S : List Nat} {a b : World} (h : Upd c a b) (hc : c ∈ S) : KeepB B S a b := ⟨h.os, h.tape, h.output, h.size, fun i _ hS => h.other i (fun e => hS (e ▸ hc))⟩
theorem kU {N c : Nat} {S : List Nat} {a b d : World} (h : KeepB N S a b) (u : Upd c b d) (k : N ≤ c ∨ c ∈ S := by first | exact .inl (by omega) | exact .inr (by simp)) : KeepB N S a d := h.trans (k.elim (KeepB.of_new u) (KeepB.of_mem u))
abbrev km_ := @KeepB.of_mem
theorem KeepB.of_grown {B : Nat} {S : List Nat} {a b : World} {row : Option Nat} (h : a.grownBy b row) (hr : ∀ g, row = some g → g ∈ S ∨ B ≤ g) (hB : B ≤ a.heap.size) : KeepB B S a b :=
 ⟨h.os, h.tape, h.output, h.size, fun i hi hS => h.block i oO fun e => by rcases hr i e.symm with h | h <;> first | exact hS h | omega⟩
theorem KeepB.below {B C : Nat} {S : List Nat} {w w1 : World} (h : KeepB B S w w1) (hB : C ≤ B) (hS : ∀ k ∈ S, C ≤ k) : Below C w w1 :=
 ⟨h.os, h.tape, h.output, h.size, fun k hk => h.block k oO fun hm => by have := hS k hm; omega⟩
theorem KeepB.refl (B : Nat) (S : List Nat) (w : World) : KeepB B S w w := ⟨rfl, rfl, rfl, nr_ _, fun _ _ _ => rfl⟩
section
variable {P : Program} {n : Sh} {f : Fr} {L : Lay α}
theorem WL.appMb {ops : Array Oper} {Q : Exit → Fr → World → Prop} {w : World} {rest : List Oper} {d ty : Nat} {pos : String} {aft : Array Edge} {s x : Operand} {t e : TypeId} {B : Nat} {z v : Value} {xs l : List α} {p : Option Addr} {c by' : Nat}
  (ht : P.underlying t = some (.slice e)) (hi : (P.info? e).map (fun i => (i.zero, i.size, i.bytes)) = some (some z, L.m, by')) (hby2 : Nat.ble by' 1000 = true) (hzs : z.cells.size = L.m)
  (hs : evo f s = some v) (hown : OwnM L e B w v xs) (hx : evo f x = some (.slice p l.length c)) (hb : RowM L w p l)
  (hn : xs.length + l.length ≤ 4611686018427387904) (hbt : (xs.length + l.length) * by' ≤ 140737488355328) (hB : B ≤ w.heap.size) (hd : Nat.blt d n.n = true) (hc : l = [] → c = 0 ∨ p ≠ none)
  (k : ∀ v' w', OwnM L e B w' v' (xs ++ l) → Below B w w' → w.grownBy w' v.ownBlock → (∀ g, v'.ownBlock = some g → v.ownBlock = some g ∨ w.heap.size ≤ g) → WL P n ops Q rest ((d, v') :: f) w') :
  WL P n ops Q (⟨some d, .call ⟨.builtin .append, #[s, x], #[t, t]⟩, ty, pos, aft, none⟩ :: rest) f w := by
 cases hh : P.info? e with
 | none => rw [hh] at hi; cases hi
 | some i =>
  rw [hh] at hi; simp only [Option.map_some, Option.some.injEq, Prod.mk.injEq] at hi; obtain ⟨hz, b, E⟩ := hi; have a1 : by' ≤ 1000 := by simpa using hby2
  have A := L.flat_len xs; have o := L.flat_len l; have M : (xs ++ l).length = xs.length + l.length := by simp
  have fin : ∀ (w' : World) (g cap : Nat) (cur : Array Value), B ≤ g → w'.heap[g]? = some (.cells cur e (0, 0)) → xs.length + l.length ≤ cap → cap ≤ maxLen → cap * L.m ≤ cur.size → cur.toList.take ((xs.length + l.length) * L.m) = L.flat xs ++ L.flat l →
    OwnM L e B w' (.slice (some ⟨g, 0, none⟩) (xs.length + l.length) cap) (xs ++ l) := fun w' g cap cur h1 C F D N h6 =>
   .inr ⟨g, cap, cur, by rw [M], h1, C, by rw [M]; exact F, D, N, by rw [M, h6, L.flat_append]⟩
  have run : ∀ (v' : Value) (w' : World), (Builtin.append_ #[t, t] ty #[v, .slice p l.length c]).run P w = .ok v' w' → OwnM L e B w' v' (xs ++ l) → w.grownBy w' v.ownBlock → (∀ g, v'.ownBlock = some g → v.ownBlock = some g ∨ w.heap.size ≤ g) →
    WL P n ops Q (⟨some d, .call ⟨.builtin .append, #[s, x], #[t, t]⟩, ty, pos, aft, none⟩ :: rest) f w := fun v' w' C F D N => by
   refine WL.run hd (w' := w') (v := v') (fun ρ hρ => ?_) (k v' w' F ((br_ _ _).grown D hB fun k hk => (hown.lt k hk).1) D N); unfold execOp; simp only [resolve, invoke, builtin, Sem.run_bind, Sem.run_pure, Result.andThen_ok, List.map_toArray, List.map_cons, List.map_nil, hρ _ _ hs, hρ _ _ hx, C]
  cases hp : p with
  | none =>
   have hl : l = [] := by
    cases l with
    | nil => rfl
    | cons a r => have := hb.isp (by simp); rw [hp] at this; cases this
   have T : c = 0 := (hc hl).resolve_right (fun h => h hp); subst hp; subst hl; subst T; refine run v w ?_ (by rw [List.append_nil]; exact hown) ⟨rfl, rfl, rfl, nr_ _, fun _ _ _ => rfl⟩ fun g hg => .inl hg
   rcases hown with ⟨rfl, rfl⟩ | ⟨g, cap, cur, rfl, -, -, J, -⟩
   ·
    simp [Builtin.append_, run_underlying ht, sizeOf, typeInfo, hh, Builtin.lenOf, Builtin.firstCells]
   ·
    simp [Builtin.append_, run_underlying ht, sizeOf, typeInfo, hh, Builtin.lenOf, Builtin.firstCells, J, storeCells]
  | some a =>
   subst hp; have q : (xs.length + l.length) * i.bytes ≤ 140737488355328 := by rw [E]; exact hbt
   rcases hown with ⟨rfl, rfl⟩ | ⟨g, cap, cur, rfl, U, hg, J, V, X, K⟩
   ·
    obtain ⟨v', w', C, F, D, -⟩ := run_append_own (P := P) (w := w) w.heap.size t ty e i z L.m by' ht hh hz b E hzs L.pos (.slice none 0 0) 0 [] (World.ownsRow_nil w w.heap.size e L.m) a l.length c (L.flat l) o
     (fun j y hj => hb.flat j y hj) (L.flat_one l) (by unfold maxLen; omega) (by simp only [List.length_nil] at q; rw [E] at q; exact q) (nr_ _)
    have G : OwnM L e w.heap.size w' v' ([] ++ l) := OwnM.of (by rw [List.nil_append]; simpa using F); exact run v' w' C (G.base fun g hg => nt_ hB (G.lt g hg).1) D fun g hg => .inr (G.lt g hg).1
   ·
    by_cases hroom : xs.length + l.length ≤ cap
    ·
     have O : xs.length * i.size + (L.flat l).length ≤ cur.size := by
      rw [b, o, ← Nat.add_mul]; exact nt_ (Nat.mul_le_mul_right _ hroom) X
     have C := run_append_room (P := P) w t ty e i ht hh g xs.length cap cur hg a l.length c (L.flat l) (by rw [b]; exact o) (fun j y hj => hb.flat j y hj) (L.flat_one l) hroom O; refine run _ _ C (fin _ g cap _ U (setRow_heap w g cur _ e _ hg) hroom V ?_ ?_) ⟨rfl, rfl, rfl, by simp, fun k _ hk => setRow_other w g k _ (fun e => hk (by simp [Value.ownBlock, e]))⟩ fun g hg => .inl hg
     ·
      simp only [List.size_toArray, List.length_append, List.length_take, List.length_drop, Array.length_toList]
      omega
     ·
      show (cur.toList.take (xs.length * i.size) ++ L.flat l ++ _).take _ = _
      rw [b, K, List.take_append_of_le_length (by rw [List.length_append, A, o, Nat.add_mul]; omega), List.take_of_length_le (by rw [List.length_append, A, o, Nat.add_mul]; omega)]
    ·
     have H : ∀ j u, (L.flat xs)[j]? = some u → w.cell? ((⟨g, 0, none⟩ : Addr).add j) = some u := fun j u hj => by
      have Y : j < (L.flat xs).length := by
       rcases Nat.lt_or_ge j (L.flat xs).length with h | h
       ·
        exact h
       ·
        rw [List.getElem?_eq_none h] at hj; cases hj
      rw [add_lit, Nat.zero_add, Lib.cell_of_heap hg j, ← Array.getElem?_toList]; have C : (cur.toList.take (xs.length * L.m))[j]? = (L.flat xs)[j]? := by rw [K]
      rw [List.getElem?_take, if_pos (by rw [← A]; exact Y)] at C; rw [C, hj]
     have Z := run_append_grow (P := P) w t ty e i z ht hh hz ⟨g, 0, none⟩ xs.length cap (L.flat xs) (by rw [b]; exact A) H a l.length c (L.flat l) (by rw [b]; exact o) (fun j y hj => hb.flat j y hj) oO oO (growslice_fits oO q); have a0 := grownCap_ge w (xs.length + l.length) cap e; have R : grownCap w (xs.length + l.length) cap e ≤ maxLen := grownCap_le_maxLen w (xs.length + l.length) cap e (by unfold maxLen; omega); refine run _ _ Z (fin _ w.heap.size _ _ hB (heap_alloc_new w.drew _) a0 R ?_ ?_) ⟨rfl, rfl, rfl, by simp, fun k hk _ => (Upd.alloc w.drew _).other k (by show k ≠ w.heap.size; omega)⟩ fun g hg => .inr (by simp only [Value.ownBlock, Option.some.injEq] at hg; omega)
     ·
      simp only [Array.size_append, List.size_toArray, size_zeroCells, hzs, A, o, ← Nat.add_mul]; exact Nat.le_of_eq (congrArg (· * L.m) oO)
     ·
      simp only [Array.toList_append, List.append_assoc]; rw [← List.append_assoc, List.take_append_of_le_length (by rw [List.length_append, A, o, Nat.add_mul]; omega), List.take_of_length_le (by rw [List.length_append, A, o, Nat.add_mul]; omega)]
theorem WL.appM {ops : Array Oper} {Q : Exit → Fr → World → Prop} {w : World} {rest : List Oper} {d ty : Nat} {pos : String} {aft : Array Edge} {s x : Operand} {t e : TypeId} {B : Nat} {z v : Value} {xs l : List α} {p : Option Addr} {c by' : Nat}
  (ht : P.underlying t = some (.slice e)) (hi : (P.info? e).map (fun i => (i.zero, i.size, i.bytes)) = some (some z, L.m, by')) (hby2 : Nat.ble by' 1000 = true) (hzs : z.cells.size = L.m)
  (hs : evo f s = some v) (hown : OwnM L e B w v xs) (hx : evo f x = some (.slice p l.length c)) (hb : RowM L w p l)
  (hn : xs.length + l.length ≤ 10000000) (hB : B ≤ w.heap.size) (hd : Nat.blt d n.n = true) (hc : l = [] → c = 0 ∨ p ≠ none)
  (k : ∀ v' w', OwnM L e B w' v' (xs ++ l) → Below B w w' → w.grownBy w' v.ownBlock → (∀ g, v'.ownBlock = some g → v.ownBlock = some g ∨ w.heap.size ≤ g) → WL P n ops Q rest ((d, v') :: f) w') :
  WL P n ops Q (⟨some d, .call ⟨.builtin .append, #[s, x], #[t, t]⟩, ty, pos, aft, none⟩ :: rest) f w := by
 refine WL.appMb ht hi hby2 hzs hs hown hx hb oO ?_ hB hd hc k
 have a : by' ≤ 1000 := by simpa using hby2
 have : (xs.length + l.length) * by' ≤ (xs.length + l.length) * 1000 := Nat.mul_le_mul_left _ a
 omega
theorem Rd.ldS {t : TypeId} {x : Operand} {p : Option Addr} {l : List α} {w : World} {dd : TypeDesc} (hu : P.underlying t = some dd) (hdd : dd.isRow = true) (hi : (P.info? t).map (·.size) = some L.m) (hb : RowM L w p l) (k : Nat) (hk : k < l.length)
  (hx : evo f x = some (.pointer (some ((pA p).add (k * L.m))))) : Rd P (.load t x) f w (.agg (L.V l[k]).toArray) := fun ρ hρ d ty pos aft g => by
 have hl : (loadCells ((pA p).add (k * L.m)) (L.V l[k]).length).run P w = .ok (L.V l[k]).toArray w :=
  run_loadCells_list (P := P) w ((pA p).add (k * L.m)) (L.V l[k]) (fun j v hv => by
   have hj : j < L.m := by
    rcases Nat.lt_or_ge j L.m with h | h
    ·
     exact h
    ·
     rw [List.getElem?_eq_none (by rw [L.len]; exact h)] at hv; cases hv
   rw [add_add, hb.cells k hk j hj, hv])
 cases hq : P.info? t with
 | none => simp [hq] at hi
 | some i =>
  have hs : i.size = (L.V l[k]).length := by rw [L.len]; simpa [hq] using hi
  have a : (isAgg t).run P w = .ok true w := by
   unfold isAgg
   rw [Sem.run_bind, run_underlying hu w]
   cases dd <;> simp_all
  unfold execOp
  simp [hρ _ _ hx, Instr.loadAt, Instr.sureAddr, loadVar, Sem.run_bind, a, sizeOf, typeInfo, hq, hs, hl]
theorem list_set_flat (L : Lay α) (l : List α) (k : Nat) (hk : k < l.length) (x : α) : (L.flat l).take (k * L.m) ++ L.V x ++ (L.flat l).drop (k * L.m + L.m) = L.flat (l.set k x) := by
 rw [L.flat_take, show k * L.m + L.m = (k + 1) * L.m by rw [Nat.succ_mul], L.flat_drop, List.set_eq_take_append_cons_drop, if_pos hk]
 simp [Lay.flat]
end
end
section
open Go.RowKit Go.WideShapes Go.ChangeShapes
theorem rvE {a b : Value} (h : a = b) : Ending.returned a = .returned b := by rw [h]
theorem W.retc2 {P : Program} {fn : Func} {R : Ending → World → Prop} {f : Fr} {w : World} {t u : Tmp} {ty : TypeId} {b : Addr} {v x : Value} (hr : fn.results = #[.cell t ty, .tmp u])
  (ht : look f t = some (.pointer (some b))) (hv : (loadVar ty b).run P w = .ok v w) (hx : look f u = some x) (h : R (.returned (.tuple #[v, x])) w) : Post P fn R .ret f w := by
 unfold Post
 exact ⟨_, fun tmps hh => by
  have a := hh _ _ ht; have c := hh _ _ hx
  simp only [Array.getD_eq_getD_getElem?] at a c
  simp [results, hr, a, c, asAddr, hv], h⟩
section
variable {P : Program} {n : Sh} {f : Fr}
theorem Pure.eqSN {x : Operand} {tx ty e : TypeId} {p : Option Addr} {m c : Nat} (hu : P.underlying tx = some (.slice e)) (hx : evo f x = some (.slice p m c)) : Pure P (.binOp .eql tx x (.const (.slice none 0 0)) ty) f (.bool p.isNone) := fun ρ hρ d ty' pos aft g w => by
 have h4 : ρ (.const (.slice none 0 0)) = .slice none 0 0 := hρ _ _ rfl
 simp [execOp, hρ _ _ hx, h4, eqGuard, Lib.run_eql_slice_nil w tx e p m c 0 0 hu]
theorem Pure.max2 {x y : Operand} {k k' : IntKind} {a b : Int} {ats : Array TypeId} (hx : evo f x = some (.int k a)) (hy : evo f y = some (.int k' b)) : Pure P (.call ⟨.builtin .max, #[x, y], ats⟩) f (.int k (if b > a then b else a)) := fun ρ hρ d ty pos aft g w => by
 simp [execOp, resolve, invoke, builtin, hρ _ _ hx, hρ _ _ hy, run_max_int2]
theorem Pure.min2 {x y : Operand} {k k' : IntKind} {a b : Int} {ats : Array TypeId} (hx : evo f x = some (.int k a)) (hy : evo f y = some (.int k' b)) : Pure P (.call ⟨.builtin .min, #[x, y], ats⟩) f (.int k (if b < a then b else a)) := fun ρ hρ d ty pos aft g w => by
 simp [execOp, resolve, invoke, builtin, hρ _ _ hx, hρ _ _ hy, run_min_int2]
theorem Pure.slmF {tx e : TypeId} {x y : Operand} {p : Option Addr} {l c sz : Nat} {i : Int} (hu : P.underlying tx = some (.slice e)) (hs : ∀ w, (sizeOf e).run P w = .ok sz w) (hx : evo f x = some (.slice p l c))
  (hi : evo f y = some (.int .i64 i)) (a : Nat) (ei : i = a) (ham : a ≤ l) : Pure P (.slice tx x (some y) none none) f (.slice (pPartM sz p c a) (l - a) (c - a)) := fun ρ hρ d ty pos aft g w => by
 subst ei
 simp [execOp, Instr.sliceAt, Instr.slice, Instr.sliceBounds, run_sliceBound, hρ _ _ hx, hρ _ _ hi, run_underlying hu, hs, ham, pPartM]
theorem Pure.slmT {tx e : TypeId} {x z : Operand} {p : Option Addr} {l c sz : Nat} {j : Int} (hu : P.underlying tx = some (.slice e)) (hs : ∀ w, (sizeOf e).run P w = .ok sz w) (hx : evo f x = some (.slice p l c))
  (hj : evo f z = some (.int .i64 j)) (b : Nat) (ej : j = b) (hbc : b ≤ c) : Pure P (.slice tx x none (some z) none) f (.slice (pPartM sz p c 0) b c) := fun ρ hρ d ty pos aft g w => by
 subst ej
 simp [execOp, Instr.sliceAt, Instr.slice, Instr.sliceBounds, run_sliceBound, hρ _ _ hx, hρ _ _ hj, run_underlying hu, hs, hbc, pPartM]
theorem Pure.ixm {tx e : TypeId} {x y : Operand} {p : Option Addr} {l c sz : Nat} {i : Int} {k : IntKind} (hu : P.underlying tx = some (.slice e)) (hs : ∀ w, (sizeOf e).run P w = .ok sz w) (hx : evo f x = some (.slice p l c))
  (hi : evo f y = some (.int k i)) (hp : p = some (pA p)) (j : Nat) (e' : i = j) (hj : j < l) : Pure P (.indexAddr tx x y) f (.pointer (some ((pA p).add (j * sz)))) :=
 Pure.ixa hu hs (by rw [hx]; rw [← hp]) hi j e' hj
theorem RowM.field {α : Type} {L : Lay α} {w : World} {p : Option Addr} {l : List α} (h : RowM L w p l) (k : Nat) (hk : k < l.length) (i : Nat) (hi : i < L.m) : w.cell? (((pA p).add (k * L.m)).add i) = (L.V l[k])[i]? := by
 rw [add_add]; exact h.cells k hk i hi
theorem run_equalIn_ptr_nil (w : World) (d : Nat) (t e : TypeId) (a : Option Addr) (h : P.underlying t = some (.pointer e)) :
  (Op.equalIn (d + 1) t (.pointer a) (.pointer none)).run P w = .ok a.isNone w := by
 cases a <;> simp [Op.equalIn, run_underlying h]
theorem Pure.eqP {x : Operand} {tx ty e : TypeId} {a : Option Addr} (hu : P.underlying tx = some (.pointer e)) (hx : evo f x = some (.pointer a)) : Pure P (.binOp .eql tx x (.const (.pointer none)) ty) f (.bool a.isNone) := fun ρ hρ d ty' pos aft g w => by
 have h4 : ρ (.const (.pointer none)) = .pointer none := hρ _ _ rfl
 have h5 : (binOp .eql tx (.pointer a) (.pointer none)).run P w = .ok (.bool a.isNone) w := by
  simp only [binOp]
  simp [Op.equal, Op.maxDepth, run_equalIn_ptr_nil w 9999 tx e a hu]
 simp [execOp, hρ _ _ hx, h4, eqGuard, h5]
theorem Pure.neP {x : Operand} {tx ty e : TypeId} {a : Option Addr} (hu : P.underlying tx = some (.pointer e)) (hx : evo f x = some (.pointer a)) : Pure P (.binOp .neq tx x (.const (.pointer none)) ty) f (.bool (!a.isNone)) := fun ρ hρ d ty' pos aft g w => by
 have h4 : ρ (.const (.pointer none)) = .pointer none := hρ _ _ rfl
 have h5 : (binOp .neq tx (.pointer a) (.pointer none)).run P w = .ok (.bool (!a.isNone)) w := by
  simp only [binOp]
  simp [Op.equal, Op.maxDepth, run_equalIn_ptr_nil w 9999 tx e a hu]
 simp [execOp, hρ _ _ hx, h4, eqGuard, h5]
end
end
section
open Go.ChangeShapes Go.WideShapes Go.ChangeAt Go.RowKit
structure SlOk {α : Type} (p : Option Addr) (l : List α) (c : Nat) : Prop where
 le : l.length ≤ c
 cap : c ≤ maxLen
 nil : l = [] → c = 0 ∨ p ≠ none
 none : p = none → l = [] ∧ c = 0
theorem SlOk.z {α : Type} : SlOk (α := α) Option.none [] 0 := ⟨nr_ _, by unfold maxLen; omega, fun _ => .inl rfl, fun _ => ⟨rfl, rfl⟩⟩
theorem list_choose {α : Type} (P : Nat → α → Prop) : ∀ n, (∀ i, i < n → ∃ o, P i o) → ∃ l : List α, l.length = n ∧ ∀ i (h : i < l.length), P i l[i]
  | 0, _ => ⟨[], rfl, fun i h => by simp at h⟩
  | n + 1, h => by
    obtain ⟨l, hl, hp⟩ := list_choose P n (fun i hi => h i oO)
    obtain ⟨o, ho⟩ := h n oO
    refine ⟨l ++ [o], by simp [hl], fun i hi => ?_⟩
    rw [List.length_append, List.length_singleton] at hi
    rcases Nat.lt_or_ge i l.length with h1 | h1
    · rw [List.getElem_append_left h1]; exact hp i h1
    · obtain rfl : i = l.length := by omega
      rw [List.getElem_append_right (nr_ _)]
      simp only [Nat.sub_self, List.getElem_cons_zero]
      rw [hl]; exact ho
def DLen {H : Type} (d : DataW H) (n : Nat) : Prop := n = 0 ∨ ∃ elems spare, d = .slice elems spare ∧ n = elems.length
abbrev intV (k : Int) : Value := .int .i64 k
section
variable {H : Type} {enc : TypeId × Value → H} {P : Program} {w : World} {base : Nat} {sp : Nat → Bool} {held : Bool} {fuel : Nat} {t e : TypeId} {cs : List Value} {x : DataW H × List MemPlace} {α : Type}
theorem open_rowAt {V : α → Value} {Ok : α → Prop} (hu : P.underlying t = some (.slice e)) (hc : P.cellsOf e = 1) (hel : ∀ {n v x}, DataW.trod enc P w base sp held n e [v] = some x → ∃ o, v = V o ∧ Ok o)
    (h : DataW.trod enc P w base sp held fuel t cs = some x) : ∃ p l c, cs = [.slice p (l : List α).length c] ∧ RowAt V w p l ∧ SlOk p l c ∧ (∀ y ∈ l, Ok y) ∧ DLen x.1 l.length := by
  rcases Go.Deep.open_slice1 hu hc h with ⟨rfl, rfl⟩ | ⟨a, len, cap, k, n, F, D, Pl, rfl, -, hl, hm, hk, rfl, hx⟩
  · exact ⟨none, [], 0, rfl, RowAt.nil w, .z, fun y hy => by simp at hy, .inl rfl⟩
  · have g : len ≤ k := by rw [hk]; split <;> omega
    obtain ⟨l, b, hp⟩ := list_choose (fun i o => w.cell? (a.add i) = some (V o) ∧ Ok o) len (fun i hi => by
      obtain ⟨d, f⟩ := hx i oO
      obtain ⟨o, ho, hk⟩ := hel f
      exact ⟨o, by rw [d, ho], hk⟩)
    refine ⟨some a, l, cap, by rw [b], ⟨fun _ => rfl, fun j hj => (hp j hj).1⟩, ⟨by omega, hm, fun _ => .inr (by simp), fun h => by cases h⟩, fun y hy => ?_, .inr ⟨_, _, rfl, by simp [b]⟩⟩
    obtain ⟨i, hi, rfl⟩ := List.getElem_of_mem hy
    exact (hp i hi).2
theorem open_strs (hu : P.underlying t = some (.slice e)) (he : P.underlying e = some .string) (hc : P.cellsOf e = 1)
  (h : DataW.trod enc P w base sp held fuel t cs = some x) : ∃ p l c, cs = [.slice p (l : List (List UInt8)).length c] ∧ RowAt strV w p l ∧ SlOk p l c ∧ (∀ y ∈ l, y.length ≤ maxLen) ∧ DLen x.1 l.length :=
 open_rowAt hu hc (fun {n v x} h => by
  obtain ⟨a, e, -, w⟩ := DataW.trod_string he h
  simp only [List.cons.injEq, and_true] at e
  exact ⟨a.data.toList, e, by rw [Array.length_toList]; exact w⟩) h
end
end
section
open Go.ChangeShapes Go.WideShapes Go.ChangeAt Go.RowKit
structure PointV where
 fX : Int
 fY : Int
def pointV (x : PointV) : List Value := [.int .i64 x.fX, .int .i64 x.fY]
def pointL : Lay PointV := ⟨2, pointV, by decide, fun _ => rfl, fun x u hu => List.all_eq_true.1 (show (pointV x).all Value.oneCell' = true from rfl) u hu⟩
structure PointOk (w : World) (x : PointV) : Prop where
 wf_fX : (Lit.int .i64 x.fX).wf = true
 wf_fY : (Lit.int .i64 x.fY).wf = true
theorem PointOk.below {w w1 : World} {x : PointV} (h : PointOk w x) (hb : Below w.heap.size w w1) : PointOk w1 x :=
 ⟨h.wf_fX, h.wf_fY⟩
structure SegV where
 fKind : Int
 fP_0 : PointV
 fP_1 : PointV
 fP_2 : PointV
def segV (x : SegV) : List Value := [.int .i64 x.fKind] ++ pointV x.fP_0 ++ pointV x.fP_1 ++ pointV x.fP_2
def segL : Lay SegV := ⟨7, segV, by decide, fun _ => rfl, fun x u hu => List.all_eq_true.1 (show (segV x).all Value.oneCell' = true from rfl) u hu⟩
structure SegOk (w : World) (x : SegV) : Prop where
 wf_fKind : (Lit.int .i64 x.fKind).wf = true
 ok_fP_0 : PointOk w x.fP_0
 ok_fP_1 : PointOk w x.fP_1
 ok_fP_2 : PointOk w x.fP_2
theorem SegOk.below {w w1 : World} {x : SegV} (h : SegOk w x) (hb : Below w.heap.size w w1) : SegOk w1 x :=
 ⟨h.wf_fKind, h.ok_fP_0.below hb, h.ok_fP_1.below hb, h.ok_fP_2.below hb⟩
structure ColorV where
 fSpace : Int
 fPart_0 : Int
 fPart_1 : Int
 fPart_2 : Int
 fPart_3 : Int
def colorV (x : ColorV) : List Value := [.int .i64 x.fSpace, .int .i64 x.fPart_0, .int .i64 x.fPart_1, .int .i64 x.fPart_2, .int .i64 x.fPart_3]
def colorL : Lay ColorV := ⟨5, colorV, by decide, fun _ => rfl, fun x u hu => List.all_eq_true.1 (show (colorV x).all Value.oneCell' = true from rfl) u hu⟩
structure ColorOk (w : World) (x : ColorV) : Prop where
 wf_fSpace : (Lit.int .i64 x.fSpace).wf = true
 wf_fPart_0 : (Lit.int .i64 x.fPart_0).wf = true
 wf_fPart_1 : (Lit.int .i64 x.fPart_1).wf = true
 wf_fPart_2 : (Lit.int .i64 x.fPart_2).wf = true
 wf_fPart_3 : (Lit.int .i64 x.fPart_3).wf = true
theorem ColorOk.below {w w1 : World} {x : ColorV} (h : ColorOk w x) (hb : Below w.heap.size w w1) : ColorOk w1 x :=
 ⟨h.wf_fSpace, h.wf_fPart_0, h.wf_fPart_1, h.wf_fPart_2, h.wf_fPart_3⟩
structure ClipV where
 pfPath : Option Addr
 fPath : List SegV
 cfPath : Nat
 fEvenOdd : Bool
def clipV (x : ClipV) : List Value := [.slice x.pfPath x.fPath.length x.cfPath, .bool x.fEvenOdd]
def clipL : Lay ClipV := ⟨2, clipV, by decide, fun _ => rfl, fun x u hu => List.all_eq_true.1 (show (clipV x).all Value.oneCell' = true from rfl) u hu⟩
structure ClipOk (w : World) (x : ClipV) : Prop where
 row_fPath : RowM segL w x.pfPath x.fPath
 sl_fPath : SlOk x.pfPath x.fPath x.cfPath
 all_fPath : ∀ y ∈ x.fPath, SegOk w y
theorem ClipOk.below {w w1 : World} {x : ClipV} (h : ClipOk w x) (hb : Below w.heap.size w w1) : ClipOk w1 x :=
 ⟨h.row_fPath.below hb (fun h0 => h.row_fPath.lt h0), h.sl_fPath, fun y hy => (h.all_fPath y hy).below hb⟩
structure PenV where
 fWidth : Int
 fCap : Int
 fJoin : Int
 fMiter : Int
 pfDash : Option Addr
 fDash : List Int
 cfDash : Nat
 fPhase : Int
def penV (x : PenV) : List Value := [.int .i64 x.fWidth, .int .i64 x.fCap, .int .i64 x.fJoin, .int .i64 x.fMiter, .slice x.pfDash x.fDash.length x.cfDash, .int .i64 x.fPhase]
def penL : Lay PenV := ⟨6, penV, by decide, fun _ => rfl, fun x u hu => List.all_eq_true.1 (show (penV x).all Value.oneCell' = true from rfl) u hu⟩
structure PenOk (w : World) (x : PenV) : Prop where
 wf_fWidth : (Lit.int .i64 x.fWidth).wf = true
 wf_fCap : (Lit.int .i64 x.fCap).wf = true
 wf_fJoin : (Lit.int .i64 x.fJoin).wf = true
 wf_fMiter : (Lit.int .i64 x.fMiter).wf = true
 row_fDash : RowAt intV w x.pfDash x.fDash
 sl_fDash : SlOk x.pfDash x.fDash x.cfDash
 wfs_fDash : ∀ y ∈ x.fDash, (Lit.int .i64 y).wf = true
 wf_fPhase : (Lit.int .i64 x.fPhase).wf = true
theorem PenOk.below {w w1 : World} {x : PenV} (h : PenOk w x) (hb : Below w.heap.size w w1) : PenOk w1 x :=
 ⟨h.wf_fWidth, h.wf_fCap, h.wf_fJoin, h.wf_fMiter, h.row_fDash.below hb (fun h0 => h.row_fDash.lt h0), h.sl_fDash, h.wfs_fDash, h.wf_fPhase⟩
structure ItemV where
 fKind : Int
 pfPath : Option Addr
 fPath : List SegV
 cfPath : Nat
 fColor : ColorV
 pfClips : Option Addr
 fClips : List ClipV
 cfClips : Nat
 fPen : PenV
 fFont : Int
 fMatrix_0 : Int
 fMatrix_1 : Int
 fMatrix_2 : Int
 fMatrix_3 : Int
 fMatrix_4 : Int
 fMatrix_5 : Int
 pfBytes : Option Addr
 fBytes : List UInt8
 cfBytes : Nat
def itemV (x : ItemV) : List Value := [.int .i64 x.fKind, .slice x.pfPath x.fPath.length x.cfPath] ++ colorV x.fColor ++ [.slice x.pfClips x.fClips.length x.cfClips] ++ penV x.fPen ++ [.int .i64 x.fFont, .int .i64 x.fMatrix_0, .int .i64 x.fMatrix_1, .int .i64 x.fMatrix_2, .int .i64 x.fMatrix_3, .int .i64 x.fMatrix_4, .int .i64 x.fMatrix_5, .slice x.pfBytes x.fBytes.length x.cfBytes]
def itemL : Lay ItemV := ⟨22, itemV, by decide, fun _ => rfl, fun x u hu => List.all_eq_true.1 (show (itemV x).all Value.oneCell' = true from rfl) u hu⟩
structure ItemOk (w : World) (x : ItemV) : Prop where
 wf_fKind : (Lit.int .i64 x.fKind).wf = true
 row_fPath : RowM segL w x.pfPath x.fPath
 sl_fPath : SlOk x.pfPath x.fPath x.cfPath
 all_fPath : ∀ y ∈ x.fPath, SegOk w y
 ok_fColor : ColorOk w x.fColor
 row_fClips : RowM clipL w x.pfClips x.fClips
 sl_fClips : SlOk x.pfClips x.fClips x.cfClips
 all_fClips : ∀ y ∈ x.fClips, ClipOk w y
 ok_fPen : PenOk w x.fPen
 wf_fFont : (Lit.int .i64 x.fFont).wf = true
 wf_fMatrix_0 : (Lit.int .i64 x.fMatrix_0).wf = true
 wf_fMatrix_1 : (Lit.int .i64 x.fMatrix_1).wf = true
 wf_fMatrix_2 : (Lit.int .i64 x.fMatrix_2).wf = true
 wf_fMatrix_3 : (Lit.int .i64 x.fMatrix_3).wf = true
 wf_fMatrix_4 : (Lit.int .i64 x.fMatrix_4).wf = true
 wf_fMatrix_5 : (Lit.int .i64 x.fMatrix_5).wf = true
 row_fBytes : BytesAt w x.pfBytes x.fBytes
 sl_fBytes : SlOk x.pfBytes x.fBytes x.cfBytes
theorem ItemOk.below {w w1 : World} {x : ItemV} (h : ItemOk w x) (hb : Below w.heap.size w w1) : ItemOk w1 x :=
 ⟨h.wf_fKind, h.row_fPath.below hb (fun h0 => h.row_fPath.lt h0), h.sl_fPath, fun y hy => (h.all_fPath y hy).below hb, h.ok_fColor.below hb, h.row_fClips.below hb (fun h0 => h.row_fClips.lt h0), h.sl_fClips, fun y hy => (h.all_fClips y hy).below hb, h.ok_fPen.below hb, h.wf_fFont, h.wf_fMatrix_0, h.wf_fMatrix_1, h.wf_fMatrix_2, h.wf_fMatrix_3, h.wf_fMatrix_4, h.wf_fMatrix_5, h.row_fBytes.below hb (fun h0 => h.row_fBytes.lt h0), h.sl_fBytes⟩
structure PageV where
 fWidth : Int
 fHeight : Int
 pfItems : Option Addr
 fItems : List ItemV
 cfItems : Nat
structure PageOk (w : World) (x : PageV) : Prop where
 wf_fWidth : (Lit.int .i64 x.fWidth).wf = true
 wf_fHeight : (Lit.int .i64 x.fHeight).wf = true
 row_fItems : RowM itemL w x.pfItems x.fItems
 sl_fItems : SlOk x.pfItems x.fItems x.cfItems
 all_fItems : ∀ y ∈ x.fItems, ItemOk w y
end
section
open Go.RowKit Go.WideShapes Go.ChangeShapes
section
variable {P : Program} {n : Sh} {f : Fr}
theorem run_callV {F : FuncId} (hb : HasBody P F) {ρ : Operand → Value} (hρ : Agr f ρ) {x : Operand} {first cap args : Array Value} (hf : evo f x = some (.func (.func F) first cap)) {xs : List Operand} {vs : List Value} (hx : evs f xs = some vs) (ha : first ++ vs.toArray ++ cap = args)
  {ats : Array TypeId} (d : Option Tmp) (ty : TypeId) (pos : String) (aft : Array Edge) (g : Option (Nat × Bool)) (w : World) :
  (execOp ρ ⟨d, .call ⟨.value x, xs.toArray, ats⟩, ty, pos, aft, g⟩).run P w = .ok (.enter F args) w := by
 obtain ⟨fn, c, i, j⟩ := hb
 have e := evs_map hρ _ _ hx
 have b : ρ x = .func (.func F) first cap := hρ _ _ hf
 have a : xs.toArray.map ρ = vs.toArray := by simp [e]
 subst ha
 unfold execOp
 simp only [resolve, a, b]
 simp [Deferred.ofValue, invoke, callFunc, run_program, c, i, j]
theorem WL.callv {ops : Array Oper} {Q : Exit → Fr → World → Prop} {w : World} {rest : List Oper} {d ty : Nat} {pos : String} {aft : Array Edge} {F : FuncId} {x : Operand} {first cap args : Array Value} {xs : List Operand} {ats : Array TypeId} {vs : List Value} {α : Sort _}
  {V : α → Value} {S : α → World → Prop} (hb : HasBody P F) (hf : evo f x = some (.func (.func F) first cap)) (hx : evs f xs = some vs) (ha : first ++ vs.toArray ++ cap = args) (hd : Nat.blt d n.n = true)
  (hc : Calls P F args w fun e w' => ∃ t, e = .returned (V t) ∧ S t w') (k : ∀ t w', S t w' → WL P n ops Q rest ((d, V t) :: f) w') :
  WL P n ops Q (⟨some d, .call ⟨.value x, xs.toArray, ats⟩, ty, pos, aft, none⟩ :: rest) f w := by
 unfold WL at *
 intro a ha'
 refine wpList_plain rfl fun K hK => ?_
 unfold Oper.wp
 rw [run_callV hb ha'.agr hf hx ha, Oper.upon_enter]
 refine hc.mono ?_
 rintro e w' ⟨t, rfl, hS⟩
 exact hK _ _ (k t w' hS _ (ha'.put hd _))
theorem WL.cv1 {ops : Array Oper} {Q : Exit → Fr → World → Prop} {w : World} {rest : List Oper} {d ty : Nat} {pos : String} {aft : Array Edge} {F : FuncId} {x : Operand} {first cap args : Array Value} {xs : List Operand} {ats : Array TypeId} {vs : List Value}
  {V : Value} {S : World → Prop} (hb : HasBody P F) (hf : evo f x = some (.func (.func F) first cap)) (hx : evs f xs = some vs) (ha : first ++ vs.toArray ++ cap = args) (hd : Nat.blt d n.n = true)
  (hc : Calls P F args w fun e w' => e = .returned V ∧ S w') (k : ∀ w', S w' → WL P n ops Q rest ((d, V) :: f) w') :
  WL P n ops Q (⟨some d, .call ⟨.value x, xs.toArray, ats⟩, ty, pos, aft, none⟩ :: rest) f w :=
 WL.callv (α := Unit) (V := fun _ => V) (S := fun _ => S) hb hf hx ha hd (hc.mono fun _ _ h => ⟨(), h⟩) (fun _ => k)
end
end
section
theorem mixed : Tryz.prog.follows .mixedOrders = true := by kernel_rfl
theorem hB_ {F : FuncId} (h : (match Tryz.prog.funcs[F]? with | some fn => !(fn.body.isNone || fn.name == "runtime.NumGoroutine") | none => false) = true := by kernel_rfl) : HasBody Tryz.prog F := by
  cases hf : Tryz.prog.funcs[F]? with
  | none => rw [hf] at h; cases h
  | some fn => rw [hf] at h; exact hasBody hf (by simpa using h)
theorem hb120 : HasBody Tryz.prog 120 := hasBody Tryz.func120 (by kernel_rfl)
theorem hb16 : HasBody Tryz.prog 16 := hasBody Tryz.func16 (by kernel_rfl)
theorem hb36 : HasBody Tryz.prog 36 := hasBody Tryz.func36 (by kernel_rfl)
theorem hb43 : HasBody Tryz.prog 43 := hasBody Tryz.func43 (by kernel_rfl)
theorem hb6 : HasBody Tryz.prog 6 := hasBody Tryz.func6 (by kernel_rfl)
theorem hb7 : HasBody Tryz.prog 7 := hasBody Tryz.func7 (by kernel_rfl)
theorem hb8 : HasBody Tryz.prog 8 := hasBody Tryz.func8 (by kernel_rfl)
theorem isz37 : (Tryz.prog.info? 37).map (·.size) = some 5 := by kernel_rfl
theorem blt37 : Tryz.prog.built 37 = fun parts => Instr.fill (([(0, 1), (1, 4)] : List (Nat × Nat)).toArray[·]?) [Value.int .i64 0, Value.int .i64 0, Value.int .i64 0, Value.int .i64 0, Value.int .i64 0].toArray parts := by kernel_rfl
theorem isz41 : (Tryz.prog.info? 41).map (·.size) = some 6 := by kernel_rfl
theorem blt41 : Tryz.prog.built 41 = fun parts => Instr.fill (([(0, 1), (1, 1), (2, 1), (3, 1), (4, 1), (5, 1)] : List (Nat × Nat)).toArray[·]?) [Value.int .i64 0, Value.int .i64 0, Value.int .i64 0, Value.int .i64 0, Value.slice none 0 0, Value.int .i64 0].toArray parts := by kernel_rfl
theorem isz44 : (Tryz.prog.info? 44).map (·.size) = some 22 := by kernel_rfl
theorem isz53 : (Tryz.prog.info? 53).map (·.size) = some 2 := by kernel_rfl
theorem isz57 : (Tryz.prog.info? 57).map (·.size) = some 2 := by kernel_rfl
theorem blt57 : Tryz.prog.built 57 = fun parts => Instr.fill (([(0, 1), (1, 1)] : List (Nat × Nat)).toArray[·]?) [Value.int .i64 0, Value.int .i64 0].toArray parts := by kernel_rfl
theorem isz61 : (Tryz.prog.info? 61).map (·.size) = some 2 := by kernel_rfl
theorem blt61 : Tryz.prog.built 61 = fun parts => Instr.fill (([(0, 1), (1, 1)] : List (Nat × Nat)).toArray[·]?) [Value.slice none 0 0, Value.bool false].toArray parts := by kernel_rfl
theorem isz68 : (Tryz.prog.info? 68).map (·.size) = some 25 := by kernel_rfl
theorem isz94 : (Tryz.prog.info? 94).map (·.size) = some 7 := by kernel_rfl
theorem isz99 : (Tryz.prog.info? 99).map (·.size) = some 6 := by kernel_rfl
theorem blt99 : Tryz.prog.built 99 = fun parts => Instr.fill (([(0, 1), (1, 1), (2, 1), (3, 1), (4, 1), (5, 1)] : List (Nat × Nat)).toArray[·]?) [Value.int .i64 0, Value.int .i64 0, Value.string ⟨#[]⟩, Value.slice none 0 0, Value.slice none 0 0, Value.slice none 0 0].toArray parts := by kernel_rfl
theorem blt112 : Tryz.prog.built 112 = fun parts => Instr.fill (([(0, 1), (1, 1), (2, 1)] : List (Nat × Nat)).toArray[·]?) [Value.slice none 0 0, Value.int .i64 0, Value.bool false].toArray parts := by kernel_rfl
theorem isz147 : (Tryz.prog.info? 147).map (·.size) = some 3 := by kernel_rfl
theorem blt147 : Tryz.prog.built 147 = fun parts => Instr.fill (([(0, 1), (1, 1), (2, 1)] : List (Nat × Nat)).toArray[·]?) [Value.int .i64 0, Value.int .i64 0, Value.string ⟨#[]⟩].toArray parts := by kernel_rfl
theorem blt180 : Tryz.prog.built 180 = fun parts => Instr.fill (([(0, 1), (1, 1)] : List (Nat × Nat)).toArray[·]?) [Value.slice none 0 0, Value.int .i64 0].toArray parts := by kernel_rfl
end
section
theorem scr_val {a b : Value} (h : a = b) : Ending.returned a = .returned b := by rw [h]
def idxI {α : Type} (q : α → Bool) (l : List α) : Int := if l.any q then (l.findIdx q : Int) else -1
theorem idxI_at {α : Type} {q : α → Bool} {l : List α} {i : Nat} (hi : i < l.length) (hn : ∀ j (h : j < l.length), j < i → q l[j] = false) (hq : q l[i] = true) : idxI q l = (i : Int) := by
 have a : l.any q = true := List.any_eq_true.2 ⟨_, List.getElem_mem hi, hq⟩
 have b : l.findIdx q = i := by
  refine (List.findIdx_eq hi).2 ⟨hq, fun j hj => ?_⟩
  exact hn j oO hj
 rw [idxI, if_pos a, b]
theorem idxI_no {α : Type} {q : α → Bool} {l : List α} (hn : ∀ j (h : j < l.length), q l[j] = false) : idxI q l = -1 := by
 have a : ¬ l.any q = true := fun h => by
  obtain ⟨x, hx, hq⟩ := List.any_eq_true.1 h
  obtain ⟨j, hj, rfl⟩ := List.mem_iff_getElem.1 hx
  rw [hn j hj] at hq; cases hq
 rw [idxI, if_neg a]
theorem idxI_ge {α : Type} (q : α → Bool) (l : List α) : decide (idxI q l ≥ 0) = l.any q := by
 unfold idxI
 cases l.any q <;> simp
theorem lib_IndexPoint {F : FuncId} (hF : HasBody Tryz.prog F) (p : Option Addr) (l : List PointV) (c : Nat) (q : PointV → Bool) (w : World) (hr : RowM pointL w p l) (hl : l.length ≤ 9223372036854775807)
  (hq : ∀ j (h : j < l.length) w1, Below w.heap.size w w1 → Calls Tryz.prog F #[.agg (pointV l[j]).toArray] w1 fun e w' => e = .returned (.bool (q l[j])) ∧ Below w1.heap.size w1 w') :
  Calls Tryz.prog 171 #[.slice p l.length c, .func (.func F) #[] #[]] w fun e w' => e = .returned (.int .i64 (idxI q l)) ∧ Below w.heap.size w w' := by
 have u : 0 < l.length → (pA p).block < w.heap.size := fun g => hr.lt g
 refine W.e func171 rfl ntmps171 bL ?_
 have n := br_ (w.heap.size) w
 refine W.sr <| WL.Z rfl <| W.seq <| W.sr <| WL.M rfl <| WL.O (.lenS u133_ rfl) <| WL.M rfl <| WL.e <| W.b <| W.loop (α := Nat) (fun t => [(0, .slice p l.length c), (1, .func (.func F) #[] #[]), (7, .int .i64 (l.length : Int)), (8, .int .i64 (t : Int))]) (fun t w' => Below w.heap.size w w' ∧ RowM pointL w' p l ∧ t ≤ l.length ∧ ∀ j (h : j < l.length), j < t → q l[j] = false) (fun t => l.length - t) (0) ⟨rfl, rfl, rfl, rfl, tT⟩ (⟨n, hr, nl_ _, fun j _ h => ab_ h oO⟩) (fun t w1 hR => ?_)
 obtain ⟨i, rfl⟩ : ∃ i, i = t := ⟨t, rfl⟩
 obtain ⟨hT, hb1, hi, a⟩ := hR
 refine W.sr <| WL.O (.lss rfl rfl) <| WL.e <| W.seq <| W.cond rfl (fun m => ?_) (fun m => ?_)
 have o := dT m
 refine W.k <| W.seq <| W.b <| W.sr <| WL.M rfl <| WL.Z rfl <| W.sr <| WL.M rfl <| WL.M rfl <| WL.M rfl <| WL.O (.ixm u133_ s57_ rfl rfl (hb1.isp (by first | omega | (simp only [List.length_cons, List.length_nil]; omega))) (i) (rfl) oO) <| WL.R (Rd.ldS u57_ rfl isz57 hb1 (i) (by first | omega | (simp only [List.length_cons, List.length_nil]; omega)) rfl) <| WL.cv1 hF rfl rfl rfl rfl (hq i oO _ hT) (fun y f => ?_)
 have s := rb_ hb1 f (fun g => hb1.lt g)
 have d := btr hT f
 refine WL.e <| W.cond rfl (fun v => ?_) (fun v => ?_)
 refine W.sr <| WL.M rfl <| WL.Z rfl <| W.ret (W.r1 rfl rfl ?_)
 first
 | exact ⟨scr_val (congrArg _ (idxI_at oO a aS).symm), d⟩
 | exact ⟨scr_val (congrArg _ (idxI_no (fun j h => a j h oO)).symm), d⟩
 refine W.k <| W.reg <| WL.O (.iis (((i + 1 : Nat) : Int)) (.add rfl rfl (i64w oO)) oO) <| WL.M rfl <| WL.e <| ?_
 exact ⟨i + 1, ⟨rfl, rfl, rfl, rfl, tT⟩, ⟨d, s, by ((try simp only) <;> omega), fun j h hj => by
  rcases Nat.lt_succ_iff_lt_or_eq.1 hj with x | rfl; exact a j h x
  assumption⟩, by ((try simp only) <;> omega)⟩
 have o := dF m
 refine W.exit <| W.sr <| WL.Z rfl <| W.ret (W.r1 rfl rfl ?_)
 first
 | exact ⟨scr_val (congrArg _ (idxI_at oO a aS).symm), hT⟩
 | exact ⟨scr_val (congrArg _ (idxI_no (fun j h => a j h oO)).symm), hT⟩
theorem lib_ContainsPoint {F : FuncId} (hF : HasBody Tryz.prog F) (p : Option Addr) (l : List PointV) (c : Nat) (q : PointV → Bool) (w : World) (hr : RowM pointL w p l) (hl : l.length ≤ 9223372036854775807)
  (hq : ∀ j (h : j < l.length) w1, Below w.heap.size w w1 → Calls Tryz.prog F #[.agg (pointV l[j]).toArray] w1 fun e w' => e = .returned (.bool (q l[j])) ∧ Below w1.heap.size w1 w') :
  Calls Tryz.prog 143 #[.slice p l.length c, .func (.func F) #[] #[]] w fun e w' => e = .returned (.bool (l.any q)) ∧ Below w.heap.size w w' := by
 refine W.e func143 rfl ntmps143 bL ?_
 have a := br_ (w.heap.size) w
 refine W.sr <| WL.Z rfl <| W.sr <| WL.M rfl <| WL.M rfl <| WL.c1 hB_ rfl rfl ((lib_IndexPoint hF p l c q _ hr hl hq)) (fun w1 b => ?_)
 have d := btr a b
 refine WL.O (.geq rfl rfl) <| WL.Z rfl <| W.ret (W.r1 rfl rfl ?_)
 exact ⟨scr_val (congrArg _ (idxI_ge q l)), d⟩
end
section
def fitsP (x : PointV) : Bool := fitsB x.fX && fitsB x.fY
def zeroP (x : PointV) : Bool := decide (x.fX = 0) && decide (x.fY = 0)
theorem ref_FitsPoint (x : PointV) (w : World) : Calls Tryz.prog 33 #[.agg (pointV x).toArray] w fun e w' => e = .returned (.bool (fitsP x)) ∧ Below w.heap.size w w' := by
 refine W.e func33 rfl ntmps33 bL ?_
 have c := br_ (w.heap.size) w
 refine W.sr <| WL.box rfl rfl (fun n m d b g l => ?_)
 have f := uB c d g
 have k := bge d c.size
 refine WL.Z rfl <| W.sr <| WL.O (.fa u57_ rfl s3_ dD rfl) <| WL.R (Rd.ld (g3_ _) rfl b rfl) <| WL.c1 hB_ rfl rfl ((ref_Fits _ _)) (fun o i => ?_)
 obtain rfl := i
 refine WL.M rfl <| WL.gd rfl rfl rfl (fun a => ?_) (fun a => ?_)
 refine WL.O (.fa u57_ rfl s3_ dD rfl) <| WL.Y a <| WL.R (Rd.ld (g3_ _) rfl b rfl) <| WL.Y a <| WL.c1 hB_ rfl rfl ((ref_Fits _ _)) (fun q j => ?_)
 obtain rfl := j
 refine WL.O (.pkT rfl a rfl) <| WL.Z rfl <| W.ret (W.r1 rfl rfl ?_)
 exact ⟨scr_val (by unfold fitsP; simp_all), f⟩
 refine WL.N a <| WL.N a <| WL.O (.pkF rfl a rfl) <| WL.Z rfl <| W.ret (W.r1 rfl rfl ?_)
 exact ⟨scr_val (by unfold fitsP; simp_all), f⟩
theorem path_fits1 (x : PointV) (w : World) : Calls Tryz.prog 144 #[.agg (pointV x).toArray] w fun e w' => e = .returned (.bool (!fitsP x)) ∧ Below w.heap.size w w' := by
 refine W.e func144 rfl ntmps144 bL ?_
 have c := br_ (w.heap.size) w
 refine W.sr <| WL.box rfl rfl (fun o n d b g m => ?_)
 have f := uB c d g
 have l := bge d c.size
 refine WL.Z rfl <| W.sr <| WL.O (.fa u57_ rfl s3_ dD rfl) <| WL.R (Rd.ld (g3_ _) rfl b rfl) <| WL.c1 hB_ rfl rfl ((fix_Fits _ _)) (fun q i => ?_)
 obtain rfl := i
 refine WL.O (.not rfl) <| WL.M rfl <| WL.gd rfl rfl rfl (fun a => ?_) (fun a => ?_)
 have j := (nF a)
 refine WL.O (.fa u57_ rfl s3_ dD rfl) <| WL.gy rfl rfl rfl (by rw [(nF a)] <;> rfl) <| WL.R (Rd.ld (g3_ _) rfl b rfl) <| WL.gy rfl rfl rfl (by rw [(nF a)] <;> rfl) <| WL.c1 hB_ rfl rfl ((fix_Fits _ _)) (fun s k => ?_)
 obtain rfl := k
 refine WL.gy rfl rfl rfl (by rw [(nF a)] <;> rfl) <| WL.O (.not rfl) <| WL.O (.pkF rfl (by rw [(nF a)] <;> rfl) rfl) <| WL.Z rfl <| W.ret (W.r1 rfl rfl ?_)
 exact ⟨scr_val (by unfold fitsP; simp_all), f⟩
 have j := (nT a)
 refine WL.gn rfl rfl rfl (by rw [(nT a)] <;> rfl) <| WL.gn rfl rfl rfl (by rw [(nT a)] <;> rfl) <| WL.gn rfl rfl rfl (by rw [(nT a)] <;> rfl) <| WL.O (.pkT rfl (by rw [(nT a)] <;> rfl) rfl) <| WL.Z rfl <| W.ret (W.r1 rfl rfl ?_)
 exact ⟨scr_val (by unfold fitsP; simp_all), f⟩
def segN (k : Int) : Int := if k = 1 ∨ k = 2 then 1 else if k = 3 then 3 else if k = 4 then 0 else -1
def folB (k last : Int) : Bool := if k = 1 then decide (last ≠ 1) else decide (last ≠ 0) && decide (last ≠ 4)
theorem path_fits (p : Option Addr) (l : List PointV) (c : Nat) (w : World) (hr : RowM pointL w p l) (hl : l.length ≤ 9223372036854775807) :
  Calls Tryz.prog 104 #[.slice p l.length c] w fun e w' => e = .returned (.bool (l.all fitsP)) ∧ Below w.heap.size w w' := by
 refine W.e func104 rfl ntmps104 bL ?_
 have a := br_ (w.heap.size) w
 refine W.sr <| WL.Z rfl <| W.sr <| WL.M rfl <| WL.c1 hB_ rfl rfl ((lib_ContainsPoint hB_ p l c (fun x => !fitsP x) _ hr hl (fun j h f _ => path_fits1 _ _))) (fun f b => ?_)
 have d := btr a b
 refine WL.O (.not rfl) <| WL.Z rfl <| W.ret (W.r1 rfl rfl ?_)
 exact ⟨scr_val (by rw [List.all_eq_not_any_not]), d⟩
end
section
theorem seg_row {w : World} {b : Nat} {t : TypeId} {s : SegV} (h : Blk w b (segV s).toArray t) (a : Nat) (ha : a ≤ 3) :
  RowM pointL w (some (if 3 = a then (⟨b, 1, none⟩ : Addr) else (⟨b, 1, none⟩ : Addr).add (a * 2))) ([s.fP_0, s.fP_1, s.fP_2].drop a) := by
 refine RowM.of_flat (fun _ => rfl) fun k v hk => ?_
 have c : ∀ i, w.cell? ⟨b, 1 + i + k, none⟩ = ((segV s).drop (1 + i))[k]? := fun i => by rw [h.cell, List.getElem?_drop]; simp
 obtain rfl | rfl | rfl | rfl : a = 0 ∨ a = 1 ∨ a = 2 ∨ a = 3 := by omega
 ·
  show w.cell? (((⟨b, 1, none⟩ : Addr).add (0 * 2)).add k) = _
  rw [add_lit, add_lit, c]; exact hk
 ·
  show w.cell? (((⟨b, 1, none⟩ : Addr).add (1 * 2)).add k) = _
  rw [add_lit, add_lit, c]; exact hk
 ·
  show w.cell? (((⟨b, 1, none⟩ : Addr).add (2 * 2)).add k) = _
  rw [add_lit, add_lit, c]; exact hk
 ·
  simp [Lay.flat] at hk
def segB (s : SegV) (last : Int) : Bool := decide (0 ≤ segN s.fKind) && folB s.fKind last && [s.fP_0, s.fP_1, s.fP_2].all fitsP && ([s.fP_0, s.fP_1, s.fP_2].drop (segN s.fKind).toNat).all zeroP
def segsB : Int → List SegV → Bool
 | _, [] => true
 | k, s :: r => segB s k && segsB s.fKind r
def pathB (l : List SegV) : Bool := decide (l.length ≤ 4096) && segsB 0 l
theorem segsB_step (k : Int) (l : List SegV) (i : Nat) (h : i < l.length) : segsB k (l.drop i) = (segB l[i] k && segsB l[i].fKind (l.drop (i + 1))) := by rw [List.drop_eq_getElem_cons h]; rfl
end
section
open Go.RowKit Go.WideShapes Go.ChangeShapes
theorem all_range_eqI : ∀ (xs ys : List Int), xs.length = ys.length → ((List.range xs.length).all fun i => xs.getD i 0 == ys.getD i 0) = (xs == ys)
 | [], [], _ => rfl
 | x :: xs, y :: ys, h => by
  have ih := all_range_eqI xs ys (by simpa using h)
  rw [List.length_cons, List.range_succ_eq_map, List.all_cons, List.all_map]
  simp only [List.getD_cons_zero, Function.comp_def, List.getD_cons_succ, ih]
  simp [List.cons_beq_cons]
 | [], _ :: _, h => by simp at h
 | _ :: _, [], h => by simp at h
def icell (n : Int) : Value := .int .i64 n
theorem run_equalIn_ints {P : Program} (w : World) (d : Nat) (t e : TypeId) (n : Nat) (ht : P.underlying t = some (.array n e)) (he : P.underlying e = some (.int .i64)) (hsz : ∀ w, (sizeOf e).run P w = .ok 1 w)
  (xs ys : List Int) (hx : xs.length = n) (hy : ys.length = n) :
  (Op.equalIn (d + 2) t (.agg (xs.map icell).toArray) (.agg (ys.map icell).toArray)).run P w = .ok (xs == ys) w := by
 rw [← all_range_eqI xs ys (hx.trans hy.symm), hx, List.range_eq_range', Op.equalIn]
 simp only [Sem.run_bind, run_underlying ht, Result.andThen_ok, hsz, Std.Legacy.Range.forIn_eq_forIn_range', Std.Legacy.Range.size, Nat.sub_zero, Nat.add_sub_cancel, Nat.div_one]
 have hl : ∀ i ∈ List.range' 0 n 1, i < n := fun i hi => by simpa using (List.mem_range'_1.1 hi).2
 generalize List.range' 0 n 1 = l at hl ⊢
 induction l with
 | nil => simp
 | cons i l ih =>
  have hi : i < n := hl i (by simp)
  have px : (part e (xs.map icell).toArray (i * 1)).run P w = .ok (icell (xs.getD i 0)) w := by
   simp [part, isAgg, run_underlying he, List.getD, List.getElem?_eq_getElem (show i < xs.length by omega)]
  have py : (part e (ys.map icell).toArray (i * 1)).run P w = .ok (icell (ys.getD i 0)) w := by
   simp [part, isAgg, run_underlying he, List.getD, List.getElem?_eq_getElem (show i < ys.length by omega)]
  have pe : (Op.equalIn (d + 1) e (icell (xs.getD i 0)) (icell (ys.getD i 0))).run P w = .ok (xs.getD i 0 == ys.getD i 0) w := by
   rw [icell, icell, run_equalIn_int w d e .i64 .i64 _ _ he]
  simp only [List.forIn_cons, Sem.run_bind, px, py, pe, Result.andThen_ok, List.all_cons]
  cases hb : (xs.getD i 0 == ys.getD i 0)
  ·
   simp
  ·
   simp only [Bool.not_true, Bool.false_eq_true, if_false, Sem.run_pure, Result.andThen_ok, Bool.true_and]
   exact ih fun j hj => hl j (by simp [hj])
theorem run_neq_ints {P : Program} (w : World) (t e : TypeId) (n : Nat) (ht : P.underlying t = some (.array n e)) (he : P.underlying e = some (.int .i64)) (hsz : ∀ w, (sizeOf e).run P w = .ok 1 w)
  (xs ys : List Int) (hx : xs.length = n) (hy : ys.length = n) :
  (binOp .neq t (.agg (xs.map icell).toArray) (.agg (ys.map icell).toArray)).run P w = .ok (.bool (!(xs == ys))) w := by
 rw [run_neq_struct, run_equalIn_ints w 9998 t e n ht he hsz xs ys hx hy]
 rfl
section
variable {P : Program} {n : Sh} {f : Fr}
theorem Pure.ixr {tx e : TypeId} {x y : Operand} {p : Addr} {m sz : Nat} {i : Int} {k : IntKind} (hu : P.underlying tx = some (.array m e)) (hs : ∀ w, (sizeOf e).run P w = .ok sz w) (hx : evo f x = some (.pointer (some p)))
  (hi : evo f y = some (.int k i)) (j : Nat) (e' : i = j) (hj : j < m) : Pure P (.indexAddr tx x y) f (.pointer (some (p.add (j * sz)))) := fun ρ hρ d ty pos aft g w => by
 subst e'
 simp [execOp, Instr.indexAt, Instr.sureAddr, hρ _ _ hx, hρ _ _ hi, asIntOf, run_underlying hu, hs, hj]
theorem Pure.ixr1 {tx e : TypeId} {x y : Operand} {p : Addr} {m : Nat} {i : Int} {k : IntKind} (hu : P.underlying tx = some (.array m e)) (hs : ∀ w, (sizeOf e).run P w = .ok 1 w) (hx : evo f x = some (.pointer (some p)))
  (hi : evo f y = some (.int k i)) (j : Nat) (e' : i = j) (hj : j < m) : Pure P (.indexAddr tx x y) f (.pointer (some (p.add j))) := by
 have h := Pure.ixr (P := P) (f := f) hu hs hx hi j e' hj
 rwa [Nat.mul_one] at h
theorem Rd.ldF {α : Type} {L : Lay α} {t tb : TypeId} {x : Operand} {b o : Nat} {cs : Array Value} {w : World} {dd : TypeDesc} (hu : P.underlying t = some dd) (hdd : dd.isRow = true) (hi : (P.info? t).map (·.size) = some L.m) (hb : Blk w b cs tb) (y : α)
  (e : (cs.toList.drop o).take L.m = L.V y) (hx : evo f x = some (.pointer (some ⟨b, o, none⟩))) : Rd P (.load t x) f w (.agg (L.V y).toArray) := by
 have hr : RowM L w (some ⟨b, o, none⟩) [y] := by
  refine RowM.of_flat (fun _ => rfl) fun k v hk => ?_
  show w.cell? ((⟨b, o, none⟩ : Addr).add k) = _
  have hk' : (L.V y)[k]? = some v := by simpa [Lay.flat] using hk
  have a : k < L.m := by
   rcases Nat.lt_or_ge k L.m with h | h
   ·
    exact h
   ·
    rw [List.getElem?_eq_none (by rw [L.len]; exact h)] at hk'; cases hk'
  rw [add_lit, hb.cell, ← hk', ← e, List.getElem?_take_of_lt a, List.getElem?_drop]
  simp
 have h := Rd.ldS (P := P) (f := f) (x := x) hu hdd hi hr 0 (by simp) (by
  rw [hx]; show _ = some (Value.pointer (some ((⟨b, o, none⟩ : Addr).add (0 * L.m)))); rw [add_lit, Nat.zero_mul, Nat.add_zero])
 exact h
end
end
section
def okP (s : SegV) (j : Nat) (hj : j < [s.fP_0, s.fP_1, s.fP_2].length) : Bool := fitsP ([s.fP_0, s.fP_1, s.fP_2][j]) && (decide ((j : Int) < segN s.fKind) || zeroP ([s.fP_0, s.fP_1, s.fP_2][j]))
theorem segN_cases (k : Int) : segN k = 0 ∨ segN k = 1 ∨ segN k = 3 ∨ segN k = -1 := by unfold segN; split; simp; split; simp; split <;> simp
theorem okP_no {s : SegV} {j : Nat} {k : Int} (hj : j < [s.fP_0, s.fP_1, s.fP_2].length) (h : okP s j hj = false) : segB s k = false := by
 have a := segN_cases s.fKind
 have hj' : j < 3 := hj
 unfold okP at h; unfold segB
 obtain rfl | rfl | rfl : j = 0 ∨ j = 1 ∨ j = 2 := by omega
 all_goals (rcases a with e | e | e | e <;> rw [e] at h ⊢ <;> simp at h ⊢ <;> (intros; simp_all))
theorem okP_all {s : SegV} {k : Int} (hn : 0 ≤ segN s.fKind) (h : ∀ j (hj : j < [s.fP_0, s.fP_1, s.fP_2].length), okP s j hj = true) : segB s k = folB s.fKind k := by
 have d := segN_cases s.fKind
 have a := h 0 (by simp); have b := h 1 (by simp); have c := h 2 (by simp)
 unfold okP at a b c; unfold segB
 rcases d with e | e | e | e <;> rw [e] at a b c hn ⊢ <;> simp at a b c hn ⊢ <;> simp_all
def lastK (l : List SegV) (i : Nat) : Int := if i = 0 then 0 else ((l[i - 1]?).map SegV.fKind).getD 0
theorem lastK_succ {l : List SegV} {i : Nat} (h : i < l.length) : lastK l (i + 1) = l[i].fKind := by unfold lastK; rw [if_neg oO]; simp [List.getElem?_eq_getElem h]
theorem lastK_pos {l : List SegV} {i : Nat} (h : i < l.length) (h0 : 0 < i) : lastK l i = (l[i - 1]'oO).fKind := by
 obtain ⟨j, rfl⟩ : ∃ j, i = j + 1 := ⟨i - 1, by omega⟩
 exact lastK_succ oO
theorem folB_eq (k last : Int) : folB k last = (!(decide (k = 1) && decide (last = 1)) && !(!decide (k = 1) && (decide (last = 0) || decide (last = 4)))) := by
 unfold folB; by_cases h : k = 1 <;> simp [h]
theorem seg_row0 {w : World} {b : Nat} {t : TypeId} {s : SegV} (h : Blk w b (segV s).toArray t) : RowM pointL w (some ⟨b, 1, none⟩) [s.fP_0, s.fP_1, s.fP_2] := seg_row h 0 dD
set_option maxHeartbeats 800000 in
theorem ref_SoundPath (p : Option Addr) (l : List SegV) (c : Nat) (w : World) (hr : RowM segL w p l) (hl : l.length ≤ 9223372036854775807) :
    Calls Tryz.prog 20 #[.slice p l.length c] w fun e w' => e = .returned (.bool (pathB l)) ∧ Below w.heap.size w w' := by
  have az : 0 < l.length → (pA p).block < w.heap.size := fun q => hr.lt q
  refine W.e func20 rfl ntmps20 bL ?_; have a3 := br_ (w.heap.size) w; refine W.sr <| WL.Z rfl <| W.seq <| W.sr <| WL.M rfl <| WL.O (.lenS u34_ rfl) <| WL.O (.gtr rfl rfl) <| WL.e <| W.cond rfl (fun h1 => ?_) (fun h1 => ?_)
  · have ak := dT h1
    refine W.sr <| WL.Z rfl <| W.ret (W.r1 rfl rfl ?_); exact ⟨scr_val (by unfold pathB; rw [decide_eq_false oO, Bool.false_and]), a3⟩
  have ak := dF h1; have h4 : l.length ≤ 4096 := by omega
  refine W.k <| W.seq <| W.sr <| WL.Z rfl <| W.b <| W.loop (α := Nat) (fun t => [(0, .slice p l.length c), (3, .int .i64 (t : Int))]) (fun t w' => Below w.heap.size w w' ∧ RowM segL w' p l ∧ t ≤ l.length ∧ segsB (lastK l t) (l.drop t) = segsB 0 l) (fun t => l.length - t) (0) ⟨rfl, rfl, tT⟩ (⟨a3, hr, nl_ _, rfl⟩) (fun t F hR => ?_); obtain ⟨i, rfl⟩ : ∃ i, i = t := ⟨t, rfl⟩; obtain ⟨hT, hb1, hi, hz⟩ := hR; refine W.seq <| W.sr <| WL.M rfl <| WL.M rfl <| WL.O (.lenS u34_ rfl) <| WL.O (.lss rfl rfl) <| WL.e <| W.cond rfl (fun G => ?_) (fun G => ?_)
  · have am := dT G
    have H : i < l.length := by omega
    have v := segsB_step (lastK l i) l i H; refine W.k <| W.seq <| W.b <| W.sr <| WL.M rfl <| WL.M rfl <| WL.O (.ixm u34_ s94_ rfl rfl (hb1.isp (by first | omega | (simp only [List.length_cons, List.length_nil]; omega))) (i) (rfl) oO) <| WL.R (Rd.ldS u94_ rfl isz94 hb1 (i) (by first | omega | (simp only [List.length_cons, List.length_nil]; omega)) rfl) <| WL.al z94_ rfl (fun E aC J a7 K aA => ?_); have L := fun q => J ▸ hb1.lt q
    have an := RowM.upd hb1 K (fun q => nn_ (L q)); have ao := uB hT J K; have ay := bge J hT.size; refine WL.stL rfl rfl a7 isz94 rfl rfl (fun w7 P Q aB => ?_); have ap := RowM.upd an Q (fun q => nn_ (L q)); have a4 := ub_ ao oO Q; refine WL.e <| W.sr <| WL.Z rfl <| W.cut (α := Unit) (fun t => [(0, .slice p l.length c), (3, .int .i64 (i : Int)), (4, .pointer (some ⟨E, 0, none⟩)), (5, .int .i64 (segN l[i].fKind))]) (fun t w' => w7 = w' ∧ 0 ≤ segN l[i].fKind) ?_ (fun t F hR => ?_); refine W.sr <| WL.O (.fa u94_ rfl s3_ dD rfl) <| WL.R (Rd.ld (g3_ _) rfl P rfl) <| WL.e <| W.b <| W.seq <| W.sr <| WL.O (.eql rfl rfl) <| WL.Z rfl <| W.cond rfl (fun B => ?_) (fun B => ?_)
    · have a8 := dT B
      refine W.k <| W.condT rfl B <| W.k ?_
      (have e : segN l[i].fKind = 1 := by unfold segN; first | rw [if_pos (.inl aS)] | rw [if_pos (.inr aS)]
       exact ⟨(), ⟨rfl, rfl, rfl, lk_i rfl e.symm, tT⟩, rfl, by omega⟩)
    have a8 := dF B; refine W.reg <| WL.O (.eql rfl rfl) <| WL.Z rfl <| W.cond rfl (fun T => ?_) (fun T => ?_)
    · have a9 := dT T
      refine W.k ?_
      (have e : segN l[i].fKind = 1 := by unfold segN; first | rw [if_pos (.inl aS)] | rw [if_pos (.inr aS)]
       exact ⟨(), ⟨rfl, rfl, rfl, lk_i rfl e.symm, tT⟩, rfl, by omega⟩)
    have a9 := dF T; refine W.sr <| WL.O (.eql rfl rfl) <| WL.Z rfl <| W.cond rfl (fun V => ?_) (fun V => ?_)
    · have aa := dT V
      refine W.reg <| WL.Z rfl ?_
      (have e : segN l[i].fKind = 3 := by unfold segN; rw [if_neg oO, if_pos aS]
       exact ⟨(), ⟨rfl, rfl, rfl, lk_i rfl e.symm, tT⟩, rfl, by omega⟩)
    have aa := dF V; refine W.sr <| WL.O (.eql rfl rfl) <| WL.Z rfl <| W.cond rfl (fun X => ?_) (fun X => ?_)
    · have ab := dT X
      refine W.reg <| WL.Z rfl ?_
      (have e : segN l[i].fKind = 0 := by unfold segN; rw [if_neg oO, if_neg oO, if_pos aS]
       exact ⟨(), ⟨rfl, rfl, rfl, lk_i rfl e.symm, tT⟩, rfl, by omega⟩)
    have ab := dF X; refine W.sr <| WL.Z rfl <| W.ret (W.r1 rfl rfl ?_); exact ⟨scr_val (by
      have e : segN l[i].fKind = -1 := by unfold segN; rw [if_neg oO, if_neg oO, if_neg oO]
      unfold pathB; rw [← hz, v]; unfold segB; rw [e]; simp), a4⟩
    obtain ⟨rfl, aq⟩ := hR; refine W.seq <| W.sr <| WL.Z rfl <| W.b <| W.loop (α := Nat) (fun t => [(0, .slice p l.length c), (3, .int .i64 (i : Int)), (4, .pointer (some ⟨E, 0, none⟩)), (5, .int .i64 (segN l[i].fKind)), (6, .int .i64 (t : Int))]) (fun t w' => Below w.heap.size w w' ∧ RowM segL w' p l ∧ Blk w' E (segV l[i]).toArray 94 ∧ t ≤ 3 ∧ ∀ j (hj : j < [l[i].fP_0, l[i].fP_1, l[i].fP_2].length), j < t → okP l[i] j hj = true) (fun t => 3 - t) (0) ⟨rfl, rfl, rfl, rfl, rfl, tT⟩ (⟨a4, ap, P, by decide, fun j _ h => ab_ h oO⟩) (fun t F hR => ?_); obtain ⟨k, rfl⟩ : ∃ k, k = t := ⟨t, rfl⟩; obtain ⟨C, hb2, D, aD, a0⟩ := hR; refine W.seq <| W.sr <| WL.M rfl <| WL.O (.lss rfl rfl) <| WL.e <| W.cond rfl (fun a1 => ?_) (fun a1 => ?_)
    · have ac := dT a1
      have a5 : k < [l[i].fP_0, l[i].fP_1, l[i].fP_2].length := by simp; omega
      refine W.k <| W.seq <| W.b <| W.cut (α := Unit) (fun t => [(0, .slice p l.length c), (3, .int .i64 (i : Int)), (4, .pointer (some ⟨E, 0, none⟩)), (5, .int .i64 (segN l[i].fKind)), (6, .int .i64 (k : Int)), (60, .bool (!okP l[i] k a5))]) (fun t w' => Below w.heap.size w w' ∧ RowM segL w' p l ∧ Blk w' E (segV l[i]).toArray 94) ?_ (fun t F hR => ?_); refine W.reg <| WL.M rfl <| WL.O (.fa u94_ rfl sizeOf92 dD rfl) <| WL.O (.ixr underlying92 s57_ rfl rfl (k) (rfl) oO) <| WL.R (Rd.ldS u57_ rfl isz57 (seg_row0 D) (k) (by first | omega | (simp only [List.length_cons, List.length_nil]; omega)) rfl) <| WL.c1 hB_ rfl rfl ((ref_FitsPoint ([l[i].fP_0, l[i].fP_1, l[i].fP_2][k]) _)) (fun aE x => ?_); have m := D.bl x; have s := rb_ hb2 x (fun q => hb2.lt q); have u := btr C x; refine WL.O (.not rfl) <| WL.M rfl <| WL.gd rfl rfl rfl (fun d => ?_) (fun d => ?_)
      · have ad := (nF d)
        refine WL.M rfl <| WL.gy rfl rfl rfl (by rw [(nF d)] <;> rfl) <| WL.M rfl <| WL.gy rfl rfl rfl (by rw [(nF d)] <;> rfl) <| WL.O (.geq rfl rfl) <| WL.gy rfl rfl rfl (by rw [(nF d)] <;> rfl) <| WL.M rfl <| WL.gd rfl rfl rfl (fun a => ?_) (fun a => ?_)
        · have ae := dT a
          refine WL.M rfl <| WL.Y a <| WL.O (.fa u94_ rfl sizeOf92 dD rfl) <| WL.Y a <| WL.O (.ixr underlying92 s57_ rfl rfl (k) (rfl) oO) <| WL.Y a <| WL.O (.fa u57_ rfl s3_ dD rfl) <| WL.Y a <| WL.R (Rd.ldc (g3_ _) rfl (((seg_row0 m).field (k) (by first | omega | (simp only [List.length_cons, List.length_nil]; omega)) 0 dD).trans rfl)) <| WL.Y a <| WL.O (.neq rfl rfl) <| WL.Y a <| WL.M rfl <| WL.gd rfl rfl rfl (fun f => ?_) (fun f => ?_)
          · have af := ndF f
            refine WL.M rfl <| WL.Y f <| WL.O (.fa u94_ rfl sizeOf92 dD rfl) <| WL.Y f <| WL.O (.ixr underlying92 s57_ rfl rfl (k) (rfl) oO) <| WL.Y f <| WL.O (.fa u57_ rfl s3_ dD rfl) <| WL.Y f <| WL.R (Rd.ldc (g3_ _) rfl (((seg_row0 m).field (k) (by first | omega | (simp only [List.length_cons, List.length_nil]; omega)) 1 dD).trans rfl)) <| WL.Y f <| WL.O (.neq rfl rfl) <| WL.Y a <| WL.O (.pkF rfl f rfl) <| WL.gy rfl rfl rfl (by rw [(nF d)] <;> rfl) <| WL.O (.pkT rfl a rfl) <| WL.O (.pkF rfl (by rw [(nF d)] <;> rfl) rfl) <| WL.e <| ?_; exact ⟨(), ⟨rfl, rfl, rfl, rfl, rfl, lk_b rfl (by unfold okP zeroP; simp_all <;> omega), tT⟩, u, s, m⟩
          have af := ndT f; refine WL.N f <| WL.N f <| WL.N f <| WL.N f <| WL.N f <| WL.Y a <| WL.O (.pkT rfl f rfl) <| WL.gy rfl rfl rfl (by rw [(nF d)] <;> rfl) <| WL.O (.pkT rfl a rfl) <| WL.O (.pkF rfl (by rw [(nF d)] <;> rfl) rfl) <| WL.e <| ?_; exact ⟨(), ⟨rfl, rfl, rfl, rfl, rfl, lk_b rfl (by unfold okP zeroP; simp_all <;> omega), tT⟩, u, s, m⟩
        have ae := dF a; refine WL.N a <| WL.N a <| WL.N a <| WL.N a <| WL.N a <| WL.N a <| WL.U <| WL.U <| WL.U <| WL.U <| WL.U <| WL.U <| WL.N a <| WL.gy rfl rfl rfl (by rw [(nF d)] <;> rfl) <| WL.O (.pkF rfl a rfl) <| WL.O (.pkF rfl (by rw [(nF d)] <;> rfl) rfl) <| WL.e <| ?_; exact ⟨(), ⟨rfl, rfl, rfl, rfl, rfl, lk_b rfl (by unfold okP zeroP; simp_all <;> omega), tT⟩, u, s, m⟩
      have ad := (nT d); refine WL.gn rfl rfl rfl (by rw [(nT d)] <;> rfl) <| WL.gn rfl rfl rfl (by rw [(nT d)] <;> rfl) <| WL.gn rfl rfl rfl (by rw [(nT d)] <;> rfl) <| WL.U <| WL.U <| WL.U <| WL.U <| WL.U <| WL.U <| WL.U <| WL.U <| WL.U <| WL.U <| WL.U <| WL.U <| WL.U <| WL.U <| WL.gn rfl rfl rfl (by rw [(nT d)] <;> rfl) <| WL.O (.pkT rfl (by rw [(nT d)] <;> rfl) rfl) <| WL.e <| ?_; exact ⟨(), ⟨rfl, rfl, rfl, rfl, rfl, lk_b rfl (by unfold okP zeroP; simp_all <;> omega), tT⟩, u, s, m⟩; obtain ⟨a6, ar, au⟩ := hR; refine W.cond rfl (fun av => ?_) (fun av => ?_); refine W.sr <| WL.Z rfl <| W.ret (W.r1 rfl rfl ?_); exact ⟨scr_val (by unfold pathB; rw [← hz, v, okP_no (k := lastK l i) a5 (by simp_all), Bool.false_and, Bool.and_false]), a6⟩; refine W.k <| W.reg <| WL.M rfl <| WL.O (.iis (((k + 1 : Nat) : Int)) (.add rfl rfl (i64w oO)) oO) <| WL.Z rfl ?_; exact ⟨k + 1, ⟨rfl, rfl, rfl, rfl, rfl, tT⟩, ⟨a6, ar, au, by ((try simp only) <;> omega), fun j hj h => by
        rcases Nat.lt_succ_iff_lt_or_eq.1 h with G | rfl
        · exact a0 j hj G
        · simp_all⟩, by ((try simp only) <;> omega)⟩
    have ac := dF a1; have y := okP_all (k := lastK l i) aq (fun j hj => a0 j hj (by simp at hj; omega)); refine W.exit <| W.sr <| WL.Z rfl <| W.cut (α := Unit) (fun t => [(0, .slice p l.length c), (3, .int .i64 (i : Int)), (4, .pointer (some ⟨E, 0, none⟩)), (7, .int .i64 (lastK l i))]) (fun t w' => F = w') ?_ (fun t F hR => ?_); refine W.sr <| WL.M rfl <| WL.O (.gtr rfl rfl) <| WL.e <| W.cond rfl (fun a2 => ?_) (fun a2 => ?_)
    · have ag := dT a2
      refine W.reg <| WL.M rfl <| WL.M rfl <| WL.O (.iis (((i - 1 : Nat) : Int)) (.sub rfl rfl (i64w oO)) oO) <| WL.O (.ixm u34_ s94_ rfl rfl (hb2.isp (by first | omega | (simp only [List.length_cons, List.length_nil]; omega))) (i - 1) (rfl) oO) <| WL.O (.fa u94_ rfl s3_ dD rfl) <| WL.R (Rd.ldc (g3_ _) rfl ((hb2.field (i - 1) (by first | omega | (simp only [List.length_cons, List.length_nil]; omega)) 0 dD).trans rfl)) <| WL.Z rfl ?_; exact ⟨(), ⟨rfl, rfl, rfl, lk_i rfl (lastK_pos H oO).symm, tT⟩, rfl⟩
    have ag := dF a2; refine W.k ?_; exact ⟨(), ⟨rfl, rfl, rfl, lk_i rfl (by rw [show i = 0 by omega]; rfl), tT⟩, rfl⟩; obtain rfl := hR; refine W.seq ?_; have A := folB_eq l[i].fKind (lastK l i); refine W.cutB 75 (decide (l[i].fKind = 1) && decide (lastK l i = 1)) ?_ ?_; refine W.reg <| WL.O (.fa u94_ rfl s3_ dD rfl) <| WL.R (Rd.ld (g3_ _) rfl D rfl) <| WL.O (.eql rfl rfl) <| WL.M rfl <| WL.gd rfl rfl rfl (fun n => ?_) (fun n => ?_)
    · have ah := dT n
      refine WL.M rfl <| WL.Y n <| WL.O (.eql rfl rfl) <| WL.O (.pkT rfl n rfl) <| WL.e <| ?_; exact ⟨leE (lk_b rfl (by simp_all)), rfl⟩
    have ah := dF n; refine WL.N n <| WL.O (.pkF rfl n rfl) <| WL.e <| ?_; exact ⟨leE (lk_b rfl (by simp_all)), rfl⟩; refine W.cond rfl (fun aw => ?_) (fun aw => ?_); refine W.sr <| WL.Z rfl <| W.ret (W.r1 rfl rfl ?_); exact ⟨scr_val (by unfold pathB; rw [← hz, v, y, A]; first | (simp_all; done) | (simp_all <;> (intros; omega))), C⟩; refine W.k <| W.cutB 86 (!decide (l[i].fKind = 1) && (decide (lastK l i = 0) || decide (lastK l i = 4))) ?_ ?_; refine W.reg <| WL.O (.fa u94_ rfl s3_ dD rfl) <| WL.R (Rd.ld (g3_ _) rfl D rfl) <| WL.O (.neq rfl rfl) <| WL.M rfl <| WL.gd rfl rfl rfl (fun g => ?_) (fun g => ?_)
    · have ai := ndT g
      refine WL.M rfl <| WL.Y g <| WL.O (.eql rfl rfl) <| WL.Y g <| WL.M rfl <| WL.gd rfl rfl rfl (fun o => ?_) (fun o => ?_)
      · have aj := dF o
        refine WL.M rfl <| WL.Y o <| WL.O (.eql rfl rfl) <| WL.Y g <| WL.O (.pkF rfl o rfl) <| WL.O (.pkT rfl g rfl) <| WL.e <| ?_; exact ⟨leE (lk_b rfl (by simp_all)), rfl⟩
      have aj := dT o; refine WL.N o <| WL.Y g <| WL.O (.pkT rfl o rfl) <| WL.O (.pkT rfl g rfl) <| WL.e <| ?_; exact ⟨leE (lk_b rfl (by simp_all)), rfl⟩
    have ai := ndF g; refine WL.N g <| WL.N g <| WL.U <| WL.U <| WL.N g <| WL.O (.pkF rfl g rfl) <| WL.e <| ?_; exact ⟨leE (lk_b rfl (by simp_all)), rfl⟩; refine W.cond rfl (fun ax => ?_) (fun ax => ?_); refine W.sr <| WL.Z rfl <| W.ret (W.r1 rfl rfl ?_); exact ⟨scr_val (by unfold pathB; rw [← hz, v, y, A]; first | (simp_all; done) | (simp_all <;> (intros; omega))), C⟩; refine W.k <| W.reg <| WL.M rfl <| WL.O (.iis (((i + 1 : Nat) : Int)) (.add rfl rfl (i64w oO)) oO) <| WL.Z rfl ?_; exact ⟨i + 1, ⟨rfl, rfl, tT⟩, ⟨C, hb2, by ((try simp only) <;> omega), by rw [lastK_succ H, ← hz, v, y, A]; simp_all <;> (intros; omega)⟩, by ((try simp only) <;> omega)⟩
  have am := dF G; refine W.exit <| W.sr <| WL.Z rfl <| W.ret (W.r1 rfl rfl ?_); exact ⟨scr_val (by unfold pathB; rw [← hz, List.drop_eq_nil_of_le oO, decide_eq_true h4]; rfl), hT⟩
end
section
def noneB (x : PenV) : Bool := decide (x.fWidth = 0) && decide (x.fCap = 0) && decide (x.fJoin = 0) && decide (x.fMiter = 0) && decide ((x.fDash.length : Int) = 0) && decide (x.fPhase = 0)
def penH (x : PenV) : Bool := decide (x.fWidth < 0) || !fitsB x.fWidth || decide (x.fCap < 0) || decide (x.fCap > 2) || decide (x.fJoin < 0) || decide (x.fJoin > 2) || decide (x.fMiter < 65536) || !fitsB x.fMiter || decide (x.fPhase < 0) || !fitsB x.fPhase || decide ((x.fDash.length : Int) > 11)
def dashB (n : Int) : Bool := decide (0 ≤ n) && fitsB n
def penB (x : PenV) : Bool := !penH x && x.fDash.all dashB && (x.fDash.isEmpty || x.fDash.any fun n => decide (0 < n))
def sumI (l : List Int) : Int := l.foldl (· + ·) 0
theorem sumI_sum (l : List Int) : sumI l = l.sum := by
 unfold sumI; rw [List.sum_eq_foldl]
theorem sum_bound : ∀ (l : List Int), (∀ n ∈ l, dashB n = true) → 0 ≤ l.sum ∧ l.sum ≤ 2147483647 * (l.length : Int) ∧ (0 < l.sum ↔ (l.any fun n => decide (0 < n)) = true)
 | [], _ => by simp
 | n :: l, h => by
  have h1 := sum_bound l fun m hm => h m (List.mem_cons_of_mem _ hm)
  have h2 := h n (List.mem_cons_self ..)
  simp only [dashB, fitsB, Bool.and_eq_true, decide_eq_true_eq] at h2
  obtain ⟨a, b, c⟩ := h1
  refine ⟨by simp only [List.sum_cons]; omega, by simp only [List.sum_cons, List.length_cons]; omega, ?_⟩
  simp only [List.sum_cons, List.any_cons, Bool.or_eq_true, decide_eq_true_eq]
  rw [← c]; omega
theorem all_of {α : Type} {q : α → Bool} {l : List α} (h : ∀ j (hj : j < l.length), q l[j] = true) : l.all q = true := List.all_eq_true.2 fun x hx => by
 obtain ⟨j, hj, rfl⟩ := List.mem_iff_getElem.1 hx
 exact h j hj
theorem all_not {α : Type} {q : α → Bool} {l : List α} {j : Nat} (hj : j < l.length) (h : q l[j] = false) : l.all q = false := by
 rw [Bool.eq_false_iff]; intro e
 rw [List.all_eq_true.1 e _ (List.getElem_mem hj)] at h; cases h
end
section
theorem isz42 : (Tryz.prog.info? 42).map (·.size) = some 6 := by kernel_rfl
def parts (c : ColorV) : List Int := [c.fPart_0, c.fPart_1, c.fPart_2, c.fPart_3]
theorem parts_row {w : World} {b : Nat} {t : TypeId} {c : ColorV} (h : Blk w b (colorV c).toArray t) : RowAt intV w (some ⟨b, 1, none⟩) (parts c) := ⟨fun _ => rfl, fun j hj => by
 show w.cell? ((⟨b, 1, none⟩ : Addr).add j) = _
 have h' : j < 4 := hj
 rw [add_lit, h.cell]
 obtain rfl | rfl | rfl | rfl : j = 0 ∨ j = 1 ∨ j = 2 ∨ j = 3 := by omega
 all_goals rfl⟩
def spaceB (n : Int) : Bool := !(!decide (n = 1) && !decide (n = 3) && !decide (n = 4))
def partB (c : ColorV) (i : Nat) (h : i < (parts c).length) : Bool := decide (0 ≤ (parts c)[i]) && decide ((parts c)[i] ≤ 65536) && (decide ((i : Int) < c.fSpace) || decide ((parts c)[i] = 0))
def colorB (c : ColorV) : Bool := spaceB c.fSpace && (partB c 0 (by simp [parts]) && partB c 1 (by simp [parts]) && partB c 2 (by simp [parts]) && partB c 3 (by simp [parts]))
theorem colorB_no {c : ColorV} {i : Nat} (h : i < (parts c).length) (e : partB c i h = false) : colorB c = false := by
 have h' : i < 4 := h
 unfold colorB
 obtain rfl | rfl | rfl | rfl : i = 0 ∨ i = 1 ∨ i = 2 ∨ i = 3 := by omega
 all_goals (rw [e]; simp)
theorem colorB_yes {c : ColorV} (hs : spaceB c.fSpace = true) (h : ∀ i (hi : i < (parts c).length), partB c i hi = true) : colorB c = true := by
 unfold colorB; rw [hs, h, h, h, h]; rfl
set_option maxHeartbeats 400000 in
theorem ref_soundPen (x : PenV) (w : World) (hr : RowAt intV w x.pfDash x.fDash) : Calls Tryz.prog 22 #[.agg (penV x).toArray] w fun e w' => e = .returned (.bool (penB x)) ∧ Below w.heap.size w w' := by
 have ah : 0 < x.fDash.length → (pA x.pfDash).block < w.heap.size := fun F => hr.lt F
 refine W.e func22 rfl ntmps22 bL ?_
 have L := br_ (w.heap.size) w
 refine W.sr <| WL.box rfl rfl (fun b1 a7 G a H ai => ?_)
 have Q := fun F => G ▸ hr.lt F
 have y := RowAt.upd hr H (fun F => nn_ (Q F))
 have J := uB L G H
 have ag := bge G L.size
 refine WL.Z rfl <| W.seq <| W.cutB 61 (penH x) ?_ ?_
 refine W.reg <| WL.O (.fa u41_ rfl s3_ dD rfl) <| WL.R (Rd.ld (g3_ _) rfl a rfl) <| WL.O (.lss rfl rfl) <| WL.M rfl <| WL.gd rfl rfl rfl (fun v => ?_) (fun v => ?_)
 have a8 := dF v
 refine WL.O (.fa u41_ rfl s3_ dD rfl) <| WL.Y v <| WL.R (Rd.ld (g3_ _) rfl a rfl) <| WL.Y v <| WL.c1 hB_ rfl rfl ((ref_Fits _ _)) (fun w6 a9 => ?_)
 obtain rfl := a9
 refine WL.Y v <| WL.O (.not rfl) <| WL.O (.pkF rfl v rfl) <| WL.M rfl <| WL.gd rfl rfl rfl (fun B => ?_) (fun B => ?_)
 have aa := (nF B)
 refine WL.O (.fa u41_ rfl s3_ dD rfl) <| WL.gy rfl rfl rfl (by rw [(nF B)] <;> rfl) <| WL.R (Rd.ld (g3_ _) rfl a rfl) <| WL.gy rfl rfl rfl (by rw [(nF B)] <;> rfl) <| WL.O (.lss rfl rfl) <| WL.O (.pkF rfl (by rw [(nF B)] <;> rfl) rfl) <| WL.M rfl <| WL.gd rfl rfl rfl (fun C => ?_) (fun C => ?_)
 have ab := dF C
 refine WL.O (.fa u41_ rfl s3_ dD rfl) <| WL.Y C <| WL.R (Rd.ld (g3_ _) rfl a rfl) <| WL.Y C <| WL.O (.gtr rfl rfl) <| WL.O (.pkF rfl C rfl) <| WL.M rfl <| WL.gd rfl rfl rfl (fun D => ?_) (fun D => ?_)
 have ac := dF D
 refine WL.O (.fa u41_ rfl s3_ dD rfl) <| WL.Y D <| WL.R (Rd.ld (g3_ _) rfl a rfl) <| WL.Y D <| WL.O (.lss rfl rfl) <| WL.O (.pkF rfl D rfl) <| WL.M rfl <| WL.gd rfl rfl rfl (fun o => ?_) (fun o => ?_)
 have T := dF o
 refine WL.O (.fa u41_ rfl s3_ dD rfl) <| WL.Y o <| WL.R (Rd.ld (g3_ _) rfl a rfl) <| WL.Y o <| WL.O (.gtr rfl rfl) <| WL.O (.pkF rfl o rfl) <| WL.M rfl <| WL.gd rfl rfl rfl (fun s => ?_) (fun s => ?_)
 have U := dF s
 refine WL.O (.fa u41_ rfl s3_ dD rfl) <| WL.Y s <| WL.R (Rd.ld (g3_ _) rfl a rfl) <| WL.Y s <| WL.O (.lss rfl rfl) <| WL.O (.pkF rfl s rfl) <| WL.M rfl <| WL.gd rfl rfl rfl (fun f => ?_) (fun f => ?_)
 have V := dF f
 refine WL.O (.fa u41_ rfl s3_ dD rfl) <| WL.Y f <| WL.R (Rd.ld (g3_ _) rfl a rfl) <| WL.Y f <| WL.c1 hB_ rfl rfl ((ref_Fits _ _)) (fun aj X => ?_)
 obtain rfl := X
 refine WL.Y f <| WL.O (.not rfl) <| WL.O (.pkF rfl f rfl) <| WL.M rfl <| WL.gd rfl rfl rfl (fun u => ?_) (fun u => ?_)
 have a0 := (nF u)
 refine WL.O (.fa u41_ rfl s3_ dD rfl) <| WL.gy rfl rfl rfl (by rw [(nF u)] <;> rfl) <| WL.R (Rd.ld (g3_ _) rfl a rfl) <| WL.gy rfl rfl rfl (by rw [(nF u)] <;> rfl) <| WL.O (.lss rfl rfl) <| WL.O (.pkF rfl (by rw [(nF u)] <;> rfl) rfl) <| WL.M rfl <| WL.gd rfl rfl rfl (fun g => ?_) (fun g => ?_)
 have a1 := dF g
 refine WL.O (.fa u41_ rfl s3_ dD rfl) <| WL.Y g <| WL.R (Rd.ld (g3_ _) rfl a rfl) <| WL.Y g <| WL.c1 hB_ rfl rfl ((ref_Fits _ _)) (fun ak a2 => ?_)
 obtain rfl := a2
 refine WL.Y g <| WL.O (.not rfl) <| WL.O (.pkF rfl g rfl) <| WL.M rfl <| WL.gd rfl rfl rfl (fun m => ?_) (fun m => ?_)
 have a3 := (nF m)
 refine WL.O (.fa u41_ rfl s39_ dD rfl) <| WL.gy rfl rfl rfl (by rw [(nF m)] <;> rfl) <| WL.R (Rd.ld (g39_ _) rfl a rfl) <| WL.gy rfl rfl rfl (by rw [(nF m)] <;> rfl) <| WL.O (.lenS u39_ rfl) <| WL.gy rfl rfl rfl (by rw [(nF m)] <;> rfl) <| WL.O (.gtr rfl rfl) <| WL.O (.pkF rfl (by rw [(nF m)] <;> rfl) rfl) <| WL.e <| ?_
 exact ⟨leE (lk_b rfl (by unfold penH; first | (simp_all; done) | (simp_all <;> (intros; omega)))), rfl⟩
 have a3 := (nT m)
 refine WL.gn rfl rfl rfl (by rw [(nT m)] <;> rfl) <| WL.gn rfl rfl rfl (by rw [(nT m)] <;> rfl) <| WL.gn rfl rfl rfl (by rw [(nT m)] <;> rfl) <| WL.O (.pkT rfl (by rw [(nT m)] <;> rfl) rfl) <| WL.e <| ?_
 exact ⟨leE (lk_b rfl (by unfold penH; first | (simp_all; done) | (simp_all <;> (intros; omega)))), rfl⟩
 have a1 := dT g
 refine WL.N g <| WL.N g <| WL.N g <| WL.O (.pkT rfl g rfl) <| WL.M rfl <| WL.N rfl <| WL.N rfl <| WL.N rfl <| WL.N rfl <| WL.O (.pkT rfl rfl rfl) <| WL.e <| ?_
 exact ⟨leE (lk_b rfl (by unfold penH; first | (simp_all; done) | (simp_all <;> (intros; omega)))), rfl⟩
 have a0 := (nT u)
 refine WL.gn rfl rfl rfl (by rw [(nT u)] <;> rfl) <| WL.gn rfl rfl rfl (by rw [(nT u)] <;> rfl) <| WL.O (.pkT rfl (by rw [(nT u)] <;> rfl) rfl) <| WL.M rfl <| WL.N rfl <| WL.N rfl <| WL.N rfl <| WL.N rfl <| WL.O (.pkT rfl rfl rfl) <| WL.M rfl <| WL.N rfl <| WL.N rfl <| WL.N rfl <| WL.N rfl <| WL.O (.pkT rfl rfl rfl) <| WL.e <| ?_
 exact ⟨leE (lk_b rfl (by unfold penH; first | (simp_all; done) | (simp_all <;> (intros; omega)))), rfl⟩
 have V := dT f
 refine WL.N f <| WL.N f <| WL.N f <| WL.O (.pkT rfl f rfl) <| WL.M rfl <| WL.N rfl <| WL.N rfl <| WL.N rfl <| WL.O (.pkT rfl rfl rfl) <| WL.M rfl <| WL.N rfl <| WL.N rfl <| WL.N rfl <| WL.N rfl <| WL.O (.pkT rfl rfl rfl) <| WL.M rfl <| WL.N rfl <| WL.N rfl <| WL.N rfl <| WL.N rfl <| WL.O (.pkT rfl rfl rfl) <| WL.e <| ?_
 exact ⟨leE (lk_b rfl (by unfold penH; first | (simp_all; done) | (simp_all <;> (intros; omega)))), rfl⟩
 have U := dT s
 refine WL.N s <| WL.N s <| WL.O (.pkT rfl s rfl) <| WL.M rfl <| WL.N rfl <| WL.N rfl <| WL.N rfl <| WL.N rfl <| WL.O (.pkT rfl rfl rfl) <| WL.M rfl <| WL.N rfl <| WL.N rfl <| WL.N rfl <| WL.O (.pkT rfl rfl rfl) <| WL.M rfl <| WL.N rfl <| WL.N rfl <| WL.N rfl <| WL.N rfl <| WL.O (.pkT rfl rfl rfl) <| WL.M rfl <| WL.N rfl <| WL.N rfl <| WL.N rfl <| WL.N rfl <| WL.O (.pkT rfl rfl rfl) <| WL.e <| ?_
 exact ⟨leE (lk_b rfl (by unfold penH; first | (simp_all; done) | (simp_all <;> (intros; omega)))), rfl⟩
 have T := dT o
 refine WL.N o <| WL.N o <| WL.O (.pkT rfl o rfl) <| WL.M rfl <| WL.N rfl <| WL.N rfl <| WL.N rfl <| WL.O (.pkT rfl rfl rfl) <| WL.M rfl <| WL.N rfl <| WL.N rfl <| WL.N rfl <| WL.N rfl <| WL.O (.pkT rfl rfl rfl) <| WL.M rfl <| WL.N rfl <| WL.N rfl <| WL.N rfl <| WL.O (.pkT rfl rfl rfl) <| WL.M rfl <| WL.N rfl <| WL.N rfl <| WL.N rfl <| WL.N rfl <| WL.O (.pkT rfl rfl rfl) <| WL.M rfl <| WL.N rfl <| WL.N rfl <| WL.N rfl <| WL.N rfl <| WL.O (.pkT rfl rfl rfl) <| WL.e <| ?_
 exact ⟨leE (lk_b rfl (by unfold penH; first | (simp_all; done) | (simp_all <;> (intros; omega)))), rfl⟩
 have ac := dT D
 refine WL.N D <| WL.N D <| WL.O (.pkT rfl D rfl) <| WL.M rfl <| WL.N rfl <| WL.N rfl <| WL.N rfl <| WL.O (.pkT rfl rfl rfl) <| WL.M rfl <| WL.N rfl <| WL.N rfl <| WL.N rfl <| WL.O (.pkT rfl rfl rfl) <| WL.M rfl <| WL.N rfl <| WL.N rfl <| WL.N rfl <| WL.N rfl <| WL.O (.pkT rfl rfl rfl) <| WL.M rfl <| WL.N rfl <| WL.N rfl <| WL.N rfl <| WL.O (.pkT rfl rfl rfl) <| WL.M rfl <| WL.N rfl <| WL.N rfl <| WL.N rfl <| WL.N rfl <| WL.O (.pkT rfl rfl rfl) <| WL.M rfl <| WL.N rfl <| WL.N rfl <| WL.N rfl <| WL.N rfl <| WL.O (.pkT rfl rfl rfl) <| WL.e <| ?_
 exact ⟨leE (lk_b rfl (by unfold penH; first | (simp_all; done) | (simp_all <;> (intros; omega)))), rfl⟩
 have ab := dT C
 refine WL.N C <| WL.N C <| WL.O (.pkT rfl C rfl) <| WL.M rfl <| WL.N rfl <| WL.N rfl <| WL.N rfl <| WL.O (.pkT rfl rfl rfl) <| WL.M rfl <| WL.N rfl <| WL.N rfl <| WL.N rfl <| WL.O (.pkT rfl rfl rfl) <| WL.M rfl <| WL.N rfl <| WL.N rfl <| WL.N rfl <| WL.O (.pkT rfl rfl rfl) <| WL.M rfl <| WL.N rfl <| WL.N rfl <| WL.N rfl <| WL.N rfl <| WL.O (.pkT rfl rfl rfl) <| WL.M rfl <| WL.N rfl <| WL.N rfl <| WL.N rfl <| WL.O (.pkT rfl rfl rfl) <| WL.M rfl <| WL.N rfl <| WL.N rfl <| WL.N rfl <| WL.N rfl <| WL.O (.pkT rfl rfl rfl) <| WL.M rfl <| WL.N rfl <| WL.N rfl <| WL.N rfl <| WL.N rfl <| WL.O (.pkT rfl rfl rfl) <| WL.e <| ?_
 exact ⟨leE (lk_b rfl (by unfold penH; first | (simp_all; done) | (simp_all <;> (intros; omega)))), rfl⟩
 have aa := (nT B)
 refine WL.gn rfl rfl rfl (by rw [(nT B)] <;> rfl) <| WL.gn rfl rfl rfl (by rw [(nT B)] <;> rfl) <| WL.O (.pkT rfl (by rw [(nT B)] <;> rfl) rfl) <| WL.M rfl <| WL.N rfl <| WL.N rfl <| WL.N rfl <| WL.O (.pkT rfl rfl rfl) <| WL.M rfl <| WL.N rfl <| WL.N rfl <| WL.N rfl <| WL.O (.pkT rfl rfl rfl) <| WL.M rfl <| WL.N rfl <| WL.N rfl <| WL.N rfl <| WL.O (.pkT rfl rfl rfl) <| WL.M rfl <| WL.N rfl <| WL.N rfl <| WL.N rfl <| WL.O (.pkT rfl rfl rfl) <| WL.M rfl <| WL.N rfl <| WL.N rfl <| WL.N rfl <| WL.N rfl <| WL.O (.pkT rfl rfl rfl) <| WL.M rfl <| WL.N rfl <| WL.N rfl <| WL.N rfl <| WL.O (.pkT rfl rfl rfl) <| WL.M rfl <| WL.N rfl <| WL.N rfl <| WL.N rfl <| WL.N rfl <| WL.O (.pkT rfl rfl rfl) <| WL.M rfl <| WL.N rfl <| WL.N rfl <| WL.N rfl <| WL.N rfl <| WL.O (.pkT rfl rfl rfl) <| WL.e <| ?_
 exact ⟨leE (lk_b rfl (by unfold penH; first | (simp_all; done) | (simp_all <;> (intros; omega)))), rfl⟩
 have a8 := dT v
 refine WL.N v <| WL.N v <| WL.N v <| WL.O (.pkT rfl v rfl) <| WL.M rfl <| WL.N rfl <| WL.N rfl <| WL.N rfl <| WL.O (.pkT rfl rfl rfl) <| WL.M rfl <| WL.N rfl <| WL.N rfl <| WL.N rfl <| WL.O (.pkT rfl rfl rfl) <| WL.M rfl <| WL.N rfl <| WL.N rfl <| WL.N rfl <| WL.O (.pkT rfl rfl rfl) <| WL.M rfl <| WL.N rfl <| WL.N rfl <| WL.N rfl <| WL.O (.pkT rfl rfl rfl) <| WL.M rfl <| WL.N rfl <| WL.N rfl <| WL.N rfl <| WL.O (.pkT rfl rfl rfl) <| WL.M rfl <| WL.N rfl <| WL.N rfl <| WL.N rfl <| WL.N rfl <| WL.O (.pkT rfl rfl rfl) <| WL.M rfl <| WL.N rfl <| WL.N rfl <| WL.N rfl <| WL.O (.pkT rfl rfl rfl) <| WL.M rfl <| WL.N rfl <| WL.N rfl <| WL.N rfl <| WL.N rfl <| WL.O (.pkT rfl rfl rfl) <| WL.M rfl <| WL.N rfl <| WL.N rfl <| WL.N rfl <| WL.N rfl <| WL.O (.pkT rfl rfl rfl) <| WL.e <| ?_
 exact ⟨leE (lk_b rfl (by unfold penH; first | (simp_all; done) | (simp_all <;> (intros; omega)))), rfl⟩
 refine W.cond rfl (fun ad => ?_) (fun ad => ?_)
 refine W.sr <| WL.Z rfl <| W.ret (W.r1 rfl rfl ?_)
 exact ⟨scr_val (by unfold penB; rw [show penH x = true by assumption]; rfl), J⟩
 have hp : penH x = false := by assumption
 refine W.k <| W.sr <| WL.O (.fa u41_ rfl s39_ dD rfl) <| WL.R (Rd.ld (g39_ _) rfl a rfl) <| WL.O (.lenS u39_ rfl) <| WL.O (.eql rfl rfl) <| WL.Z rfl <| W.seq <| W.sr <| WL.Z rfl <| W.b <| W.loop (α := Nat) (fun t => [(1, .pointer (some ⟨b1, 0, none⟩)), (3, .bool (decide ((x.fDash.length : Int) = 0) || (x.fDash.take t).any fun n => decide (0 < n))), (4, .int .i64 (t : Int))]) (fun t w' => a7 = w' ∧ t ≤ x.fDash.length ∧ ∀ j (hj : j < x.fDash.length), j < t → dashB x.fDash[j] = true) (fun t => x.fDash.length - t) (0) ⟨rfl, lk_b rfl (by simp), rfl, tT⟩ (⟨rfl, nl_ _, fun j _ h => ab_ h oO⟩) (fun t w1 hR => ?_)
 obtain ⟨i, rfl⟩ : ∃ i, i = t := ⟨t, rfl⟩
 obtain ⟨rfl, hi, E⟩ := hR
 have al : x.fDash.length ≤ 11 := by simp only [penH, Bool.or_eq_false_iff, decide_eq_false_iff_not] at hp; omega
 refine W.seq <| W.sr <| WL.M rfl <| WL.O (.fa u41_ rfl s39_ dD rfl) <| WL.R (Rd.ld (g39_ _) rfl a rfl) <| WL.O (.lenS u39_ rfl) <| WL.O (.lss rfl rfl) <| WL.e <| W.cond rfl (fun K => ?_) (fun K => ?_)
 have a4 := dT K
 have P : ((x.fDash.take (i + 1)).any fun n => decide (0 < n)) = (((x.fDash.take i).any fun n => decide (0 < n)) || decide (0 < x.fDash[i]'oO)) := by
  rw [List.take_add_one, List.getElem?_eq_getElem oO, Option.toList_some, List.any_append]; simp
 refine W.k <| W.seq <| W.b <| W.seq <| W.cutB 87 (!dashB (x.fDash[i]'oO)) ?_ ?_
 refine W.reg <| WL.O (.fa u41_ rfl s39_ dD rfl) <| WL.R (Rd.ld (g39_ _) rfl a rfl) <| WL.M rfl <| WL.O (.ixb u39_ s3_ rfl rfl (y.isp (by first | omega | exact nz_ _)) (i) (rfl) oO) <| WL.R (Rd.ldc (g3_ _) rfl (y.cells (i) oO)) <| WL.O (.lss rfl rfl) <| WL.M rfl <| WL.gd rfl rfl rfl (fun c => ?_) (fun c => ?_)
 have a5 := dF c
 refine WL.O (.fa u41_ rfl s39_ dD rfl) <| WL.Y c <| WL.R (Rd.ld (g39_ _) rfl a rfl) <| WL.Y c <| WL.M rfl <| WL.Y c <| WL.O (.ixb u39_ s3_ rfl rfl (y.isp (by first | omega | exact nz_ _)) (i) (rfl) oO) <| WL.Y c <| WL.R (Rd.ldc (g3_ _) rfl (y.cells (i) oO)) <| WL.Y c <| WL.c1 hB_ rfl rfl ((ref_Fits _ _)) (fun am a6 => ?_)
 obtain rfl := a6
 refine WL.Y c <| WL.O (.not rfl) <| WL.O (.pkF rfl c rfl) <| WL.e <| ?_
 exact ⟨leE (lk_b rfl (by unfold dashB; simp_all <;> omega)), rfl⟩
 have a5 := dT c
 refine WL.N c <| WL.N c <| WL.N c <| WL.N c <| WL.N c <| WL.N c <| WL.O (.pkT rfl c rfl) <| WL.e <| ?_
 exact ⟨leE (lk_b rfl (by unfold dashB; simp_all <;> omega)), rfl⟩
 refine W.cond rfl (fun ae => ?_) (fun ae => ?_)
 refine W.sr <| WL.Z rfl <| W.ret (W.r1 rfl rfl ?_)
 exact ⟨scr_val (by unfold penB; rw [all_not (q := dashB) (j := i) oO (by simpa using (show (!dashB (x.fDash[i]'oO)) = true by assumption)), Bool.and_false, Bool.false_and]), J⟩
 refine W.k <| W.reg <| WL.M rfl <| WL.M rfl <| WL.gd rfl rfl rfl (fun d => ?_) (fun d => ?_)
 refine WL.O (.fa u41_ rfl s39_ dD rfl) <| WL.Y d <| WL.R (Rd.ld (g39_ _) rfl a rfl) <| WL.Y d <| WL.M rfl <| WL.Y d <| WL.O (.ixb u39_ s3_ rfl rfl (y.isp (by first | omega | exact nz_ _)) (i) (rfl) oO) <| WL.Y d <| WL.R (Rd.ldc (g3_ _) rfl (y.cells (i) oO)) <| WL.Y d <| WL.O (.gtr rfl rfl) <| WL.O (.pkF rfl d rfl) <| WL.Z rfl <| W.reg <| WL.M rfl <| WL.O (.iis (((i + 1 : Nat) : Int)) (.add rfl rfl (i64w oO)) oO) <| WL.Z rfl ?_
 exact ⟨i + 1, ⟨rfl, lk_b rfl (by rw [P, ← Bool.or_assoc]; generalize (decide ((x.fDash.length : Int) = 0) || (x.fDash.take i).any fun n => decide (0 < n)) = A at *; simp_all), rfl, tT⟩, ⟨rfl, by ((try simp only) <;> omega), fun j hj h => by
  rcases Nat.lt_succ_iff_lt_or_eq.1 h with h2 | rfl; exact E j hj h2
  simp_all⟩, by ((try simp only) <;> omega)⟩
 refine WL.N d <| WL.N d <| WL.N d <| WL.N d <| WL.N d <| WL.O (.pkT rfl d rfl) <| WL.Z rfl <| W.reg <| WL.M rfl <| WL.O (.iis (((i + 1 : Nat) : Int)) (.add rfl rfl (i64w oO)) oO) <| WL.Z rfl ?_
 exact ⟨i + 1, ⟨rfl, lk_b rfl (by rw [P, ← Bool.or_assoc]; generalize (decide ((x.fDash.length : Int) = 0) || (x.fDash.take i).any fun n => decide (0 < n)) = A at *; simp_all), rfl, tT⟩, ⟨rfl, by ((try simp only) <;> omega), fun j hj h => by
  rcases Nat.lt_succ_iff_lt_or_eq.1 h with h2 | rfl; exact E j hj h2
  simp_all⟩, by ((try simp only) <;> omega)⟩
 have a4 := dF K
 have hd := all_of (q := dashB) (l := x.fDash) fun j hj => E j hj oO
 have af : penB x = (x.fDash.isEmpty || x.fDash.any fun n => decide (0 < n)) := by unfold penB; rw [hp, hd]; rfl
 refine W.exit <| W.sr <| WL.M rfl <| WL.Z rfl <| W.ret (W.r1 rfl rfl ?_)
 exact ⟨scr_val (by
  rw [af, List.take_of_length_le (show x.fDash.length ≤ i by omega)]
  congr 2; cases x.fDash <;> simp <;> omega), J⟩
end
section
theorem ref_Ints (p q : Option Addr) (l m : List Int) (c d : Nat) (w : World) (hra : RowAt intV w p l) (hrb : RowAt intV w q m) (hl : l.length ≤ 9223372036854775807) :
  Calls Tryz.prog 38 #[.slice p l.length c, .slice q m.length d] w fun e w' => e = .returned (.bool (decide (l = m))) ∧ Below w.heap.size w w' := by
 refine W.e func38 rfl ntmps38 bL ?_
 have g := br_ (w.heap.size) w
 refine W.sr <| WL.Z rfl <| W.seq <| W.sr <| WL.M rfl <| WL.O (.lenS u39_ rfl) <| WL.M rfl <| WL.O (.lenS u39_ rfl) <| WL.O (.neq rfl rfl) <| WL.e <| W.cond rfl (fun j => ?_) (fun j => ?_)
 have u := ndT j
 refine W.sr <| WL.Z rfl <| W.ret (W.r1 rfl rfl ?_)
 exact ⟨scr_val (by rw [decide_eq_false (fun e => by subst e; exact ab_ rfl aS)]), g⟩
 have u := ndF j
 have B : l.length = m.length := by omega
 refine W.k <| W.seq <| W.sr <| WL.Z rfl <| W.b <| W.loop (α := Nat) (fun t => [(0, .slice p l.length c), (1, .slice q m.length d), (5, .int .i64 (t : Int))]) (fun t w' => Below w.heap.size w w' ∧ RowAt intV w' p l ∧ RowAt intV w' q m ∧ t ≤ l.length ∧ l.take t = m.take t) (fun t => l.length - t) (0) ⟨rfl, rfl, rfl, tT⟩ (⟨g, hra, hrb, nl_ _, by simp⟩) (fun t C hR => ?_)
 obtain ⟨s, rfl⟩ : ∃ s, s = t := ⟨t, rfl⟩
 obtain ⟨hT, ha, hb, hs, a⟩ := hR
 refine W.seq <| W.sr <| WL.M rfl <| WL.M rfl <| WL.O (.lenS u39_ rfl) <| WL.O (.lss rfl rfl) <| WL.e <| W.cond rfl (fun n => ?_) (fun n => ?_)
 have v := dT n
 refine W.k <| W.seq <| W.b <| W.seq <| W.regQ mixed kR <| WQ.p (.mv rfl) rfl <| WQ.p (.mv rfl) rfl <| WQ.p (.ixb u39_ s3_ rfl rfl (ha.isp (by first | omega | exact nz_ _)) (s) oO oO) rfl <| WQ.r (fun m => Rd.ldc (g3_ _) rfl ((ha.drewN m).cells (s) oO)) rfl <| WQ.p (.mv rfl) rfl <| WQ.p (.mv rfl) rfl <| WQ.p (.ixb u39_ s3_ rfl rfl (hb.isp (by first | omega | exact nz_ _)) (s) oO oO) rfl <| WQ.r (fun m => Rd.ldc (g3_ _) rfl ((hb.drewN m).cells (s) oO)) rfl <| WQ.p (.neq rfl rfl) rfl <| WQ.nil (fun D f => ?_)
 have x := ha.drew f
 have y := hb.drew f
 have i := Drew.below hT f
 refine W.cond rfl (fun o => ?_) (fun o => ?_)
 have A := ndT o
 refine W.sr <| WL.Z rfl <| W.ret (W.r1 rfl rfl ?_)
 exact ⟨scr_val (by rw [decide_eq_false (fun e => by subst e; exact ab_ rfl aS)]), i⟩
 have A := ndF o
 refine W.k <| W.reg <| WL.M rfl <| WL.O (.iis (((s + 1 : Nat) : Int)) (.add rfl rfl (i64w oO)) oO) <| WL.Z rfl ?_
 exact ⟨s + 1, ⟨rfl, rfl, rfl, tT⟩, ⟨i, x, y, by ((try simp only) <;> omega), by
  rw [List.take_add_one, List.take_add_one, List.getElem?_eq_getElem oO, List.getElem?_eq_getElem oO, a]
  congr 3⟩, by ((try simp only) <;> omega)⟩
 have v := dF n
 refine W.exit <| W.sr <| WL.Z rfl <| W.ret (W.r1 rfl rfl ?_)
 exact ⟨scr_val (by rw [decide_eq_true (by rw [List.take_of_length_le oO, List.take_of_length_le oO] at a; exact a)]), hT⟩
def samePenB (x y : PenV) : Bool := decide (x.fWidth = y.fWidth) && decide (x.fCap = y.fCap) && decide (x.fJoin = y.fJoin) && decide (x.fMiter = y.fMiter) && decide (x.fDash = y.fDash) && decide (x.fPhase = y.fPhase)
theorem ref_SamePen (x y : PenV) (w : World) (hx : RowAt intV w x.pfDash x.fDash) (hy : RowAt intV w y.pfDash y.fDash) (hl : x.fDash.length ≤ 9223372036854775807) :
  Calls Tryz.prog 21 #[.agg (penV x).toArray, .agg (penV y).toArray] w fun e w' => e = .returned (.bool (samePenB x y)) ∧ Below w.heap.size w w' := by
 have a2 : 0 < x.fDash.length → (pA x.pfDash).block < w.heap.size := fun f => hx.lt f
 have a3 : 0 < y.fDash.length → (pA y.pfDash).block < w.heap.size := fun f => hy.lt f
 refine W.e func21 rfl ntmps21 bL ?_
 have A := br_ (w.heap.size) w
 refine W.sr <| WL.box rfl rfl (fun b1 a4 q s n a0 => ?_)
 have E := fun f => q ▸ hx.lt f
 have B := RowAt.upd hx n (fun f => nn_ (E f))
 have F := fun f => q ▸ hy.lt f
 have C := RowAt.upd hy n (fun f => nn_ (F f))
 have D := uB A q n
 have V := bge q A.size
 refine WL.box rfl rfl (fun b7 a5 m i l a1 => ?_)
 have U := bgl m s.lt
 have k := s.un l U
 have u := fun f => m ▸ B.lt f
 have G := RowAt.upd B l (fun f => nn_ (u f))
 have v := fun f => m ▸ C.lt f
 have H := RowAt.upd C l (fun f => nn_ (v f))
 have j := uB D m l
 have X := bge m D.size
 refine WL.Z rfl <| W.sr <| WL.O (.fa u41_ rfl s3_ dD rfl) <| WL.R (Rd.ld (g3_ _) rfl k rfl) <| WL.O (.fa u41_ rfl s3_ dD rfl) <| WL.R (Rd.ld (g3_ _) rfl i rfl) <| WL.O (.eql rfl rfl) <| WL.M rfl <| WL.gd rfl rfl rfl (fun a => ?_) (fun a => ?_)
 have J := dT a
 refine WL.O (.fa u41_ rfl s3_ dD rfl) <| WL.Y a <| WL.R (Rd.ld (g3_ _) rfl k rfl) <| WL.Y a <| WL.O (.fa u41_ rfl s3_ dD rfl) <| WL.Y a <| WL.R (Rd.ld (g3_ _) rfl i rfl) <| WL.Y a <| WL.O (.eql rfl rfl) <| WL.O (.pkT rfl a rfl) <| WL.M rfl <| WL.gd rfl rfl rfl (fun b => ?_) (fun b => ?_)
 have K := dT b
 refine WL.O (.fa u41_ rfl s3_ dD rfl) <| WL.Y b <| WL.R (Rd.ld (g3_ _) rfl k rfl) <| WL.Y b <| WL.O (.fa u41_ rfl s3_ dD rfl) <| WL.Y b <| WL.R (Rd.ld (g3_ _) rfl i rfl) <| WL.Y b <| WL.O (.eql rfl rfl) <| WL.O (.pkT rfl b rfl) <| WL.M rfl <| WL.gd rfl rfl rfl (fun c => ?_) (fun c => ?_)
 have L := dT c
 refine WL.O (.fa u41_ rfl s3_ dD rfl) <| WL.Y c <| WL.R (Rd.ld (g3_ _) rfl k rfl) <| WL.Y c <| WL.O (.fa u41_ rfl s3_ dD rfl) <| WL.Y c <| WL.R (Rd.ld (g3_ _) rfl i rfl) <| WL.Y c <| WL.O (.eql rfl rfl) <| WL.O (.pkT rfl c rfl) <| WL.M rfl <| WL.gd rfl rfl rfl (fun d => ?_) (fun d => ?_)
 have P := dT d
 refine WL.O (.fa u41_ rfl s39_ dD rfl) <| WL.Y d <| WL.R (Rd.ld (g39_ _) rfl k rfl) <| WL.Y d <| WL.O (.fa u41_ rfl s39_ dD rfl) <| WL.Y d <| WL.R (Rd.ld (g39_ _) rfl i rfl) <| WL.Y d <| WL.c1 hB_ rfl rfl ((ref_Ints _ _ _ _ _ _ _ G H hl)) (fun a6 o => ?_)
 have Q := k.bl o
 have T := i.bl o
 have t := btr j o
 refine WL.O (.pkT rfl d rfl) <| WL.M rfl <| WL.gd rfl rfl rfl (fun g => ?_) (fun g => ?_)
 refine WL.O (.fa u41_ rfl s3_ dD rfl) <| WL.Y g <| WL.R (Rd.ld (g3_ _) rfl Q rfl) <| WL.Y g <| WL.O (.fa u41_ rfl s3_ dD rfl) <| WL.Y g <| WL.R (Rd.ld (g3_ _) rfl T rfl) <| WL.Y g <| WL.O (.eql rfl rfl) <| WL.O (.pkT rfl g rfl) <| WL.Z rfl <| W.ret (W.r1 rfl rfl ?_)
 exact ⟨scr_val (by unfold samePenB; simp_all), t⟩
 refine WL.N g <| WL.N g <| WL.N g <| WL.N g <| WL.O (.pkF rfl g rfl) <| WL.Z rfl <| W.ret (W.r1 rfl rfl ?_)
 exact ⟨scr_val (by unfold samePenB; simp_all), t⟩
 have P := dF d
 refine WL.N d <| WL.N d <| WL.N d <| WL.N d <| WL.O (.pkF rfl d rfl) <| WL.M rfl <| WL.N rfl <| WL.N rfl <| WL.N rfl <| WL.N rfl <| WL.N rfl <| WL.O (.pkF rfl rfl rfl) <| WL.Z rfl <| W.ret (W.r1 rfl rfl ?_)
 exact ⟨scr_val (by unfold samePenB; simp_all), j⟩
 have L := dF c
 refine WL.N c <| WL.N c <| WL.N c <| WL.N c <| WL.O (.pkF rfl c rfl) <| WL.M rfl <| WL.N rfl <| WL.N rfl <| WL.N rfl <| WL.N rfl <| WL.N rfl <| WL.O (.pkF rfl rfl rfl) <| WL.M rfl <| WL.N rfl <| WL.N rfl <| WL.N rfl <| WL.N rfl <| WL.N rfl <| WL.O (.pkF rfl rfl rfl) <| WL.Z rfl <| W.ret (W.r1 rfl rfl ?_)
 exact ⟨scr_val (by unfold samePenB; simp_all), j⟩
 have K := dF b
 refine WL.N b <| WL.N b <| WL.N b <| WL.N b <| WL.O (.pkF rfl b rfl) <| WL.M rfl <| WL.N rfl <| WL.N rfl <| WL.N rfl <| WL.N rfl <| WL.N rfl <| WL.O (.pkF rfl rfl rfl) <| WL.M rfl <| WL.N rfl <| WL.N rfl <| WL.N rfl <| WL.N rfl <| WL.N rfl <| WL.O (.pkF rfl rfl rfl) <| WL.M rfl <| WL.N rfl <| WL.N rfl <| WL.N rfl <| WL.N rfl <| WL.N rfl <| WL.O (.pkF rfl rfl rfl) <| WL.Z rfl <| W.ret (W.r1 rfl rfl ?_)
 exact ⟨scr_val (by unfold samePenB; simp_all), j⟩
 have J := dF a
 refine WL.N a <| WL.N a <| WL.N a <| WL.N a <| WL.O (.pkF rfl a rfl) <| WL.M rfl <| WL.N rfl <| WL.N rfl <| WL.N rfl <| WL.N rfl <| WL.N rfl <| WL.O (.pkF rfl rfl rfl) <| WL.M rfl <| WL.N rfl <| WL.N rfl <| WL.N rfl <| WL.N rfl <| WL.N rfl <| WL.O (.pkF rfl rfl rfl) <| WL.M rfl <| WL.N rfl <| WL.N rfl <| WL.N rfl <| WL.N rfl <| WL.N rfl <| WL.O (.pkF rfl rfl rfl) <| WL.M rfl <| WL.N rfl <| WL.N rfl <| WL.N rfl <| WL.N rfl <| WL.N rfl <| WL.O (.pkF rfl rfl rfl) <| WL.Z rfl <| W.ret (W.r1 rfl rfl ?_)
 exact ⟨scr_val (by unfold samePenB; simp_all), j⟩
def pen0 : PenV := ⟨0, 0, 0, 0, none, [], 0, 0⟩
theorem pen0_none (x : PenV) : samePenB x pen0 = noneB x := by
 unfold samePenB noneB pen0
 have : decide (x.fDash = []) = decide ((x.fDash.length : Int) = 0) := by
  cases x.fDash with
  | nil => simp
  | cons a l => simp; omega
 rw [this]
theorem RowAt.none {w : World} : RowAt intV w none [] := ⟨fun h => by simp at h, fun j h => by simp at h⟩
def clipB (x : ClipV) : Bool := !x.fPath.isEmpty && pathB x.fPath
end
section
theorem eg42 : Tryz.prog.eqGuardType Tryz.prog.depth 42 = false := by kernel_rfl
theorem neA42 (a0 : Int) (a1 : Int) (a2 : Int) (a3 : Int) (a4 : Int) (a5 : Int) (b0 : Int) (b1 : Int) (b2 : Int) (b3 : Int) (b4 : Int) (b5 : Int) (w : World) : (binOp .neq 42 (.agg #[.int .i64 a0, .int .i64 a1, .int .i64 a2, .int .i64 a3, .int .i64 a4, .int .i64 a5]) (.agg #[.int .i64 b0, .int .i64 b1, .int .i64 b2, .int .i64 b3, .int .i64 b4, .int .i64 b5])).run Tryz.prog w = .ok (.bool (!decide (a0 = b0 ∧ a1 = b1 ∧ a2 = b2 ∧ a3 = b3 ∧ a4 = b4 ∧ a5 = b5))) w := by
 refine (run_neq_ints w 42 3 6 u42_ u3_ s3_ [a0, a1, a2, a3, a4, a5] [b0, b1, b2, b3, b4, b5] rfl rfl).trans ?_
 rw [show ([a0, a1, a2, a3, a4, a5] == [b0, b1, b2, b3, b4, b5]) = decide (a0 = b0 ∧ a1 = b1 ∧ a2 = b2 ∧ a3 = b3 ∧ a4 = b4 ∧ a5 = b5) from by rw [Bool.eq_iff_iff]; simp]
theorem blz42 : Tryz.prog.built 42 [] = some #[.int .i64 0, .int .i64 0, .int .i64 0, .int .i64 0, .int .i64 0, .int .i64 0] := by kernel_rfl
def mats (x : ItemV) : List Int := [x.fMatrix_0, x.fMatrix_1, x.fMatrix_2, x.fMatrix_3, x.fMatrix_4, x.fMatrix_5]
def matL : Lay ItemV := ⟨6, fun x => [.int .i64 x.fMatrix_0, .int .i64 x.fMatrix_1, .int .i64 x.fMatrix_2, .int .i64 x.fMatrix_3, .int .i64 x.fMatrix_4, .int .i64 x.fMatrix_5], by decide, fun _ => rfl, fun x u hu => List.all_eq_true.1 (show ([.int .i64 x.fMatrix_0, .int .i64 x.fMatrix_1, .int .i64 x.fMatrix_2, .int .i64 x.fMatrix_3, .int .i64 x.fMatrix_4, .int .i64 x.fMatrix_5] : List Value).all Value.oneCell' = true from rfl) u hu⟩
theorem mats_row {w : World} {b : Nat} {t : TypeId} {x : ItemV} (h : Blk w b (itemV x).toArray t) : RowAt intV w (some ⟨b, 15, none⟩) (mats x) := ⟨fun _ => rfl, fun j hj => by
 show w.cell? ((⟨b, 15, none⟩ : Addr).add j) = _
 have h' : j < 6 := hj
 rw [add_lit, h.cell]
 obtain rfl | rfl | rfl | rfl | rfl | rfl : j = 0 ∨ j = 1 ∨ j = 2 ∨ j = 3 ∨ j = 4 ∨ j = 5 := by omega
 all_goals rfl⟩
def mat0 (x : ItemV) : Bool := decide (x.fMatrix_0 = 0 ∧ x.fMatrix_1 = 0 ∧ x.fMatrix_2 = 0 ∧ x.fMatrix_3 = 0 ∧ x.fMatrix_4 = 0 ∧ x.fMatrix_5 = 0)
def lettersB (x : ItemV) : Bool := decide (0 ≤ x.fFont) && decide (x.fFont ≤ 13) && decide ((x.fBytes.length : Int) ≥ 1) && decide ((x.fBytes.length : Int) ≤ 65535) && (mats x).all fitsB
def clipsB (l : List ClipV) : Bool := decide ((l.length : Int) ≤ 16) && l.all clipB
def restB (x : ItemV) : Bool := decide (x.fFont = 0) && mat0 x && decide ((x.fBytes.length : Int) = 0) && !decide ((x.fPath.length : Int) = 0) && pathB x.fPath
def itemB (x : ItemV) : Bool := colorB x.fColor && clipsB x.fClips &&
  (if x.fKind = 4 then lettersB x && decide ((x.fPath.length : Int) = 0) && noneB x.fPen
   else restB x && (if x.fKind = 1 ∨ x.fKind = 2 then noneB x.fPen else if x.fKind = 3 then penB x.fPen else false))
theorem SlOk.len {α : Type} {p : Option Addr} {l : List α} {c : Nat} (h : SlOk p l c) : l.length ≤ 9223372036854775807 := nt_ (nt_ h.le h.cap) (by unfold maxLen; decide)
end
end Go.Proofs.YthmhfjeojkbpfaaGreatDoor
namespace Go.Proofs
open Go.Proofs.Tryz
open Go.Shelf
def Tryz.lays161_ren : Go.Shelf.Ren := ⟨fun | 161 => 158 | 231 => 130 | 227 => 132 | 233 => 133 | 235 => 135 | 228 => 163 | 197 => 165 | 151 => 166 | 260 => 193 | 152 => 161 | 137 => 58 | 119 => 184 | 224 => 185 | 225 => 186 | 217 => 86 | 266 => 118 | n => n, fun | 9 => 9 | 4 => 4 | 3 => 3 | 5 => 5 | 117 => 193 | 116 => 192 | 0 => 0 | 124 => 196 | 105 => 212 | 21 => 21 | 119 => 244 | 46 => 143 | 139 => 247 | 138 => 246 | n => n, fun | 3 => 1 | 4 => 2 | n => n⟩
theorem Tryz.lays161 : Go.Proofs.Lays.n161 Tryz.prog Tryz.lays161_ren := {
  mixed := by kernel_rfl
  f119 := Tryz.func184.trans (congrArg some (by kernel_rfl))
  f137 := Tryz.func58.trans (congrArg some (by kernel_rfl))
  f151 := Tryz.func166.trans (congrArg some (by kernel_rfl))
  f152 := Tryz.func161.trans (congrArg some (by kernel_rfl))
  f161 := Tryz.func158.trans (congrArg some (by kernel_rfl))
  f197 := Tryz.func165.trans (congrArg some (by kernel_rfl))
  f217 := Tryz.func86.trans (congrArg some (by kernel_rfl))
  f224 := Tryz.func185.trans (congrArg some (by kernel_rfl))
  f225 := Tryz.func186.trans (congrArg some (by kernel_rfl))
  f227 := Tryz.func132.trans (congrArg some (by kernel_rfl))
  f228 := Tryz.func163.trans (congrArg some (by kernel_rfl))
  f231 := Tryz.func130.trans (congrArg some (by kernel_rfl))
  f233 := Tryz.func133.trans (congrArg some (by kernel_rfl))
  f235 := Tryz.func135.trans (congrArg some (by kernel_rfl))
  f260 := Tryz.func193.trans (congrArg some (by kernel_rfl))
  f266 := Tryz.func118.trans (congrArg some (by kernel_rfl))
  t0 := Tryz.underlying0
  a0 := Tryz.isAgg0
  z0 := Tryz.sizeOf0
  v0 := Tryz.zeroValue0
  t3 := Tryz.underlying3
  a3 := Tryz.isAgg3
  z3 := Tryz.sizeOf3
  v3 := Tryz.zeroValue3
  t4 := Tryz.underlying4
  a4 := Tryz.isAgg4
  z4 := Tryz.sizeOf4
  v4 := Tryz.zeroValue4
  t5 := Tryz.underlying5
  a5 := Tryz.isAgg5
  z5 := Tryz.sizeOf5
  v5 := Tryz.zeroValue5
  t9 := Tryz.underlying9
  a9 := Tryz.isAgg9
  z9 := Tryz.sizeOf9
  v9 := Tryz.zeroValue9
  t21 := Tryz.underlying21
  a21 := Tryz.isAgg21
  z21 := Tryz.sizeOf21
  v21 := Tryz.zeroValue21
  t46 := Tryz.underlying143
  a46 := Tryz.isAgg143
  z46 := Tryz.sizeOf143
  v46 := Tryz.zeroValue143
  t105 := Tryz.underlying212
  a105 := Tryz.isAgg212
  z105 := Tryz.sizeOf212
  v105 := Tryz.zeroValue212
  t116 := Tryz.underlying192
  a116 := Tryz.isAgg192
  z116 := Tryz.sizeOf192
  t117 := Tryz.underlying193
  a117 := Tryz.isAgg193
  z117 := Tryz.sizeOf193
  v117 := Tryz.zeroValue193
  t119 := Tryz.underlying244
  a119 := Tryz.isAgg244
  z119 := Tryz.sizeOf244
  t124 := Tryz.underlying196
  a124 := Tryz.isAgg196
  z124 := Tryz.sizeOf196
  v124 := Tryz.zeroValue196
  t138 := Tryz.underlying246
  a138 := Tryz.isAgg246
  z138 := Tryz.sizeOf246
  v138 := Tryz.zeroValue246
  t139 := Tryz.underlying247
  a139 := Tryz.isAgg247
  z139 := Tryz.sizeOf247
  v139 := Tryz.zeroValue247
  g3 := by kernel_rfl
  g4 := by kernel_rfl }
open Go.RowKit in
theorem Tryz.strings_TrimLeft_one (s : ByteArray) (c : UInt8) (hc : c.toNat < 128) (w : World) :
    Calls Tryz.prog 158 #[.string s, .string ⟨#[c]⟩] w fun e w' => e = .returned (.string ⟨(Lib.trimLeftB s.data.toList c).toArray⟩) ∧ w' = w := Any.strings_TrimLeft_one Tryz.lays161 s c hc w
def Tryz.lays160_ren : Go.Shelf.Ren := ⟨fun | 160 => 96 | 232 => 131 | 231 => 130 | 227 => 132 | 234 => 134 | 233 => 133 | 236 => 136 | 235 => 135 | 228 => 163 | 271 => 167 | 151 => 166 | 197 => 165 | 120 => 194 | 152 => 161 | 260 => 193 | 137 => 58 | 119 => 184 | 224 => 185 | 225 => 186 | 217 => 86 | 266 => 118 | n => n, fun | 9 => 9 | 4 => 4 | 3 => 3 | 5 => 5 | 117 => 193 | 116 => 192 | 0 => 0 | 124 => 196 | 21 => 21 | 105 => 212 | 46 => 143 | 119 => 244 | 139 => 247 | 138 => 246 | n => n, fun | 3 => 1 | 4 => 2 | n => n⟩
theorem Tryz.lays160 : Go.Proofs.Lays.n160 Tryz.prog Tryz.lays160_ren := {
  mixed := by kernel_rfl
  f119 := Tryz.func184.trans (congrArg some (by kernel_rfl))
  f120 := Tryz.func194.trans (congrArg some (by kernel_rfl))
  f137 := Tryz.func58.trans (congrArg some (by kernel_rfl))
  f151 := Tryz.func166.trans (congrArg some (by kernel_rfl))
  f152 := Tryz.func161.trans (congrArg some (by kernel_rfl))
  f160 := Tryz.func96.trans (congrArg some (by kernel_rfl))
  f197 := Tryz.func165.trans (congrArg some (by kernel_rfl))
  f217 := Tryz.func86.trans (congrArg some (by kernel_rfl))
  f224 := Tryz.func185.trans (congrArg some (by kernel_rfl))
  f225 := Tryz.func186.trans (congrArg some (by kernel_rfl))
  f227 := Tryz.func132.trans (congrArg some (by kernel_rfl))
  f228 := Tryz.func163.trans (congrArg some (by kernel_rfl))
  f231 := Tryz.func130.trans (congrArg some (by kernel_rfl))
  f232 := Tryz.func131.trans (congrArg some (by kernel_rfl))
  f233 := Tryz.func133.trans (congrArg some (by kernel_rfl))
  f234 := Tryz.func134.trans (congrArg some (by kernel_rfl))
  f235 := Tryz.func135.trans (congrArg some (by kernel_rfl))
  f236 := Tryz.func136.trans (congrArg some (by kernel_rfl))
  f260 := Tryz.func193.trans (congrArg some (by kernel_rfl))
  f266 := Tryz.func118.trans (congrArg some (by kernel_rfl))
  f271 := Tryz.func167.trans (congrArg some (by kernel_rfl))
  t0 := Tryz.underlying0
  a0 := Tryz.isAgg0
  z0 := Tryz.sizeOf0
  v0 := Tryz.zeroValue0
  t3 := Tryz.underlying3
  a3 := Tryz.isAgg3
  z3 := Tryz.sizeOf3
  v3 := Tryz.zeroValue3
  t4 := Tryz.underlying4
  a4 := Tryz.isAgg4
  z4 := Tryz.sizeOf4
  v4 := Tryz.zeroValue4
  t5 := Tryz.underlying5
  a5 := Tryz.isAgg5
  z5 := Tryz.sizeOf5
  v5 := Tryz.zeroValue5
  t9 := Tryz.underlying9
  a9 := Tryz.isAgg9
  z9 := Tryz.sizeOf9
  v9 := Tryz.zeroValue9
  t21 := Tryz.underlying21
  a21 := Tryz.isAgg21
  z21 := Tryz.sizeOf21
  v21 := Tryz.zeroValue21
  t46 := Tryz.underlying143
  a46 := Tryz.isAgg143
  z46 := Tryz.sizeOf143
  v46 := Tryz.zeroValue143
  t105 := Tryz.underlying212
  a105 := Tryz.isAgg212
  z105 := Tryz.sizeOf212
  v105 := Tryz.zeroValue212
  t116 := Tryz.underlying192
  a116 := Tryz.isAgg192
  z116 := Tryz.sizeOf192
  t117 := Tryz.underlying193
  a117 := Tryz.isAgg193
  z117 := Tryz.sizeOf193
  v117 := Tryz.zeroValue193
  t119 := Tryz.underlying244
  a119 := Tryz.isAgg244
  z119 := Tryz.sizeOf244
  t124 := Tryz.underlying196
  a124 := Tryz.isAgg196
  z124 := Tryz.sizeOf196
  v124 := Tryz.zeroValue196
  t138 := Tryz.underlying246
  a138 := Tryz.isAgg246
  z138 := Tryz.sizeOf246
  v138 := Tryz.zeroValue246
  t139 := Tryz.underlying247
  a139 := Tryz.isAgg247
  z139 := Tryz.sizeOf247
  v139 := Tryz.zeroValue247
  g3 := by kernel_rfl
  g4 := by kernel_rfl }
def Tryz.lays119_ren : Go.Shelf.Ren := ⟨fun | 119 => 184 | n => n, fun | 21 => 21 | 4 => 4 | n => n, fun | n => n⟩
theorem Tryz.lays119 : Go.Proofs.Lays.n119 Tryz.prog Tryz.lays119_ren := {
  mixed := by kernel_rfl
  f119 := Tryz.func184.trans (congrArg some (by kernel_rfl))
  t4 := Tryz.underlying4
  a4 := Tryz.isAgg4
  z4 := Tryz.sizeOf4
  v4 := Tryz.zeroValue4
  t21 := Tryz.underlying21
  a21 := Tryz.isAgg21
  z21 := Tryz.sizeOf21
  v21 := Tryz.zeroValue21 }
theorem Tryz.utf8_ValidRune (r : Int) (w : World) :
    Calls Tryz.prog 184 #[.int .i32 r] w fun e w' => e = .returned (.bool (Lib.validRune r)) ∧ w' = w := Any.utf8_ValidRune Tryz.lays119 r w
def Tryz.lays137_ren : Go.Shelf.Ren := ⟨fun | 137 => 58 | 217 => 86 | 266 => 118 | n => n, fun | 9 => 9 | 5 => 5 | 3 => 3 | n => n, fun | n => n⟩
theorem Tryz.lays137 : Go.Proofs.Lays.n137 Tryz.prog Tryz.lays137_ren := {
  mixed := by kernel_rfl
  f137 := Tryz.func58.trans (congrArg some (by kernel_rfl))
  f217 := Tryz.func86.trans (congrArg some (by kernel_rfl))
  f266 := Tryz.func118.trans (congrArg some (by kernel_rfl))
  t3 := Tryz.underlying3
  a3 := Tryz.isAgg3
  z3 := Tryz.sizeOf3
  v3 := Tryz.zeroValue3
  t5 := Tryz.underlying5
  a5 := Tryz.isAgg5
  z5 := Tryz.sizeOf5
  v5 := Tryz.zeroValue5
  t9 := Tryz.underlying9
  a9 := Tryz.isAgg9
  z9 := Tryz.sizeOf9
  v9 := Tryz.zeroValue9 }
open Go.RowKit in
theorem Tryz.strings_IndexByte (s : ByteArray) (c : Int) (w : World) :
    Calls Tryz.prog 58 #[.string s, .int .u8 c] w fun e w' => e = .returned (.int .i64 (Lib.indexByte s.data.toList c.toNat.toUInt8)) ∧ w' = w := Any.strings_IndexByte Tryz.lays137 s c w
def Tryz.lays219_ren : Go.Shelf.Ren := ⟨fun | 219 => 199 | 217 => 86 | 225 => 186 | 224 => 185 | 267 => 206 | 266 => 118 | 314 => 209 | n => n, fun | 9 => 9 | 3 => 3 | 4 => 4 | 5 => 5 | 46 => 143 | 146 => 239 | 51 => 238 | n => n, fun | 1 => 0 | n => n⟩
theorem Tryz.lays219 : Go.Proofs.Lays.n219 Tryz.prog Tryz.lays219_ren := {
  mixed := by kernel_rfl
  f217 := Tryz.func86.trans (congrArg some (by kernel_rfl))
  f219 := Tryz.func199.trans (congrArg some (by kernel_rfl))
  f224 := Tryz.func185.trans (congrArg some (by kernel_rfl))
  f225 := Tryz.func186.trans (congrArg some (by kernel_rfl))
  f266 := Tryz.func118.trans (congrArg some (by kernel_rfl))
  f267 := Tryz.func206.trans (congrArg some (by kernel_rfl))
  f314 := Tryz.func209.trans (congrArg some (by kernel_rfl))
  t3 := Tryz.underlying3
  a3 := Tryz.isAgg3
  z3 := Tryz.sizeOf3
  v3 := Tryz.zeroValue3
  t4 := Tryz.underlying4
  a4 := Tryz.isAgg4
  z4 := Tryz.sizeOf4
  v4 := Tryz.zeroValue4
  t5 := Tryz.underlying5
  a5 := Tryz.isAgg5
  z5 := Tryz.sizeOf5
  v5 := Tryz.zeroValue5
  t9 := Tryz.underlying9
  a9 := Tryz.isAgg9
  z9 := Tryz.sizeOf9
  v9 := Tryz.zeroValue9
  t46 := Tryz.underlying143
  a46 := Tryz.isAgg143
  z46 := Tryz.sizeOf143
  v46 := Tryz.zeroValue143
  t51 := Tryz.underlying238
  a51 := Tryz.isAgg238
  z51 := Tryz.sizeOf238
  v51 := Tryz.zeroValue238
  t146 := Tryz.underlying239
  a146 := Tryz.isAgg239
  z146 := Tryz.sizeOf239
  v146 := Tryz.zeroValue239
  g1 := by kernel_rfl }
open Go.RowKit Go.Lib in
theorem Tryz.stringslite_Index_one (s : ByteArray) (c : UInt8) (w : World) :
    Calls Tryz.prog 199 #[.string s, .string ⟨#[c]⟩] w fun e w' => e = .returned (.int .i64 (Lib.indexByte s.data.toList c)) ∧ w' = w := Any.stringslite_Index_one Tryz.lays219 s c w
def Tryz.lays152_ren : Go.Shelf.Ren := ⟨fun | 152 => 161 | 137 => 58 | 119 => 184 | 224 => 185 | 225 => 186 | 217 => 86 | 266 => 118 | n => n, fun | 9 => 9 | 21 => 21 | 3 => 3 | 4 => 4 | 5 => 5 | 0 => 0 | 46 => 143 | n => n, fun | n => n⟩
theorem Tryz.lays152 : Go.Proofs.Lays.n152 Tryz.prog Tryz.lays152_ren := {
  mixed := by kernel_rfl
  f119 := Tryz.func184.trans (congrArg some (by kernel_rfl))
  f137 := Tryz.func58.trans (congrArg some (by kernel_rfl))
  f152 := Tryz.func161.trans (congrArg some (by kernel_rfl))
  f217 := Tryz.func86.trans (congrArg some (by kernel_rfl))
  f224 := Tryz.func185.trans (congrArg some (by kernel_rfl))
  f225 := Tryz.func186.trans (congrArg some (by kernel_rfl))
  f266 := Tryz.func118.trans (congrArg some (by kernel_rfl))
  t0 := Tryz.underlying0
  a0 := Tryz.isAgg0
  z0 := Tryz.sizeOf0
  v0 := Tryz.zeroValue0
  t3 := Tryz.underlying3
  a3 := Tryz.isAgg3
  z3 := Tryz.sizeOf3
  v3 := Tryz.zeroValue3
  t4 := Tryz.underlying4
  a4 := Tryz.isAgg4
  z4 := Tryz.sizeOf4
  v4 := Tryz.zeroValue4
  t5 := Tryz.underlying5
  a5 := Tryz.isAgg5
  z5 := Tryz.sizeOf5
  v5 := Tryz.zeroValue5
  t9 := Tryz.underlying9
  a9 := Tryz.isAgg9
  z9 := Tryz.sizeOf9
  v9 := Tryz.zeroValue9
  t21 := Tryz.underlying21
  a21 := Tryz.isAgg21
  z21 := Tryz.sizeOf21
  v21 := Tryz.zeroValue21
  t46 := Tryz.underlying143
  a46 := Tryz.isAgg143
  z46 := Tryz.sizeOf143
  v46 := Tryz.zeroValue143 }
open Go.RowKit Go.Lib in
theorem Tryz.strings_IndexRune_ascii (s : ByteArray) (r : Int) (w : World) (h0 : 0 ≤ r) (h1 : r < 128) :
    Calls Tryz.prog 161 #[.string s, .int .i32 r] w fun e w' => e = .returned (.int .i64 (Lib.indexByte s.data.toList r.toNat.toUInt8)) ∧ w' = w := Any.strings_IndexRune_ascii Tryz.lays152 s r w h0 h1
def Tryz.lays226_ren : Go.Shelf.Ren := ⟨fun | 226 => 162 | n => n, fun | 3 => 3 | 4 => 4 | n => n, fun | n => n⟩
theorem Tryz.lays226 : Go.Proofs.Lays.n226 Tryz.prog Tryz.lays226_ren := {
  mixed := by kernel_rfl
  f226 := Tryz.func162.trans (congrArg some (by kernel_rfl))
  t3 := Tryz.underlying3
  a3 := Tryz.isAgg3
  z3 := Tryz.sizeOf3
  v3 := Tryz.zeroValue3
  t4 := Tryz.underlying4
  a4 := Tryz.isAgg4
  z4 := Tryz.sizeOf4
  v4 := Tryz.zeroValue4 }
open Go.RowKit Go.Lib in
theorem Tryz.strings_shouldUseASCIISet (n : Int) (w : World) :
    Calls Tryz.prog 162 #[.int .i64 n] w fun e w' => e = .returned (.bool (decide (8 < n))) ∧ w' = w := Any.strings_shouldUseASCIISet Tryz.lays226 n w
def Tryz.lays153_ren : Go.Shelf.Ren := ⟨fun | 153 => 127 | 152 => 161 | 226 => 162 | 227 => 132 | 228 => 163 | 137 => 58 | 119 => 184 | 224 => 185 | 225 => 186 | 217 => 86 | 266 => 118 | n => n, fun | 9 => 9 | 3 => 3 | 4 => 4 | 5 => 5 | 21 => 21 | 117 => 193 | 116 => 192 | 0 => 0 | 46 => 143 | 124 => 196 | n => n, fun | n => n⟩
theorem Tryz.lays153 : Go.Proofs.Lays.n153 Tryz.prog Tryz.lays153_ren := {
  mixed := by kernel_rfl
  f119 := Tryz.func184.trans (congrArg some (by kernel_rfl))
  f137 := Tryz.func58.trans (congrArg some (by kernel_rfl))
  f152 := Tryz.func161.trans (congrArg some (by kernel_rfl))
  f153 := Tryz.func127.trans (congrArg some (by kernel_rfl))
  f217 := Tryz.func86.trans (congrArg some (by kernel_rfl))
  f224 := Tryz.func185.trans (congrArg some (by kernel_rfl))
  f225 := Tryz.func186.trans (congrArg some (by kernel_rfl))
  f226 := Tryz.func162.trans (congrArg some (by kernel_rfl))
  f227 := Tryz.func132.trans (congrArg some (by kernel_rfl))
  f228 := Tryz.func163.trans (congrArg some (by kernel_rfl))
  f266 := Tryz.func118.trans (congrArg some (by kernel_rfl))
  t0 := Tryz.underlying0
  a0 := Tryz.isAgg0
  z0 := Tryz.sizeOf0
  v0 := Tryz.zeroValue0
  t3 := Tryz.underlying3
  a3 := Tryz.isAgg3
  z3 := Tryz.sizeOf3
  v3 := Tryz.zeroValue3
  t4 := Tryz.underlying4
  a4 := Tryz.isAgg4
  z4 := Tryz.sizeOf4
  v4 := Tryz.zeroValue4
  t5 := Tryz.underlying5
  a5 := Tryz.isAgg5
  z5 := Tryz.sizeOf5
  v5 := Tryz.zeroValue5
  t9 := Tryz.underlying9
  a9 := Tryz.isAgg9
  z9 := Tryz.sizeOf9
  v9 := Tryz.zeroValue9
  t21 := Tryz.underlying21
  a21 := Tryz.isAgg21
  z21 := Tryz.sizeOf21
  v21 := Tryz.zeroValue21
  t46 := Tryz.underlying143
  a46 := Tryz.isAgg143
  z46 := Tryz.sizeOf143
  v46 := Tryz.zeroValue143
  t116 := Tryz.underlying192
  a116 := Tryz.isAgg192
  z116 := Tryz.sizeOf192
  t117 := Tryz.underlying193
  a117 := Tryz.isAgg193
  z117 := Tryz.sizeOf193
  v117 := Tryz.zeroValue193
  t124 := Tryz.underlying196
  a124 := Tryz.isAgg196
  z124 := Tryz.sizeOf196
  v124 := Tryz.zeroValue196 }
open Go.RowKit Go.Lib in
theorem Tryz.strings_IndexAny_long (hv116 : ∀ w, (zeroValue 192).run Tryz.prog w = .ok (.agg (Array.replicate 256 (.bool false))) w) (s chars : ByteArray) (w : World) (h2 : 2 ≤ chars.size) (h8 : 8 < s.size) (hs : s.size < 4294967281) (hcs : chars.size < 4294967281) (hascii : ∀ (j : Nat) b, chars.data.toList[j]? = some b → b.toNat < 128) :
    Calls Tryz.prog 127 #[.string s, .string chars] w fun e w' => e = .returned (.int .i64 (Lib.indexAny s.data.toList chars.data.toList)) ∧ w' = ((w.alloc (.cells (Lib.setCells chars.data.toList) 192)).alloc (.cells (Lib.setCells chars.data.toList) 192)) := Any.strings_IndexAny_long Tryz.lays153 hv116 (by kernel_rfl) s chars w h2 h8 hs hcs hascii
def Tryz.lays105_ren : Go.Shelf.Ren := ⟨fun | 105 => 164 | 212 => 187 | 99 => 188 | 165 => 189 | 166 => 190 | 170 => 191 | 169 => 192 | 263 => 200 | 264 => 201 | 206 => 202 | 240 => 203 | 241 => 204 | 276 => 207 | 277 => 208 | n => n, fun | 9 => 9 | 3 => 3 | 4 => 4 | 20 => 20 | 0 => 0 | 46 => 143 | 109 => 225 | 5 => 5 | 72 => 230 | 76 => 234 | 51 => 238 | 146 => 239 | 53 => 90 | 148 => 241 | 70 => 228 | 37 => 22 | 75 => 233 | 127 => 243 | 164 => 249 | 80 => 121 | n => n, fun | n => n⟩
theorem Tryz.lays105 : Go.Proofs.Lays.n105 Tryz.prog Tryz.lays105_ren := {
  mixed := by kernel_rfl
  f99 := Tryz.func188.trans (congrArg some (by kernel_rfl))
  f105 := Tryz.func164.trans (congrArg some (by kernel_rfl))
  f165 := Tryz.func189.trans (congrArg some (by kernel_rfl))
  f166 := Tryz.func190.trans (congrArg some (by kernel_rfl))
  f169 := Tryz.func192.trans (congrArg some (by kernel_rfl))
  f170 := Tryz.func191.trans (congrArg some (by kernel_rfl))
  f206 := Tryz.func202.trans (congrArg some (by kernel_rfl))
  f212 := Tryz.func187.trans (congrArg some (by kernel_rfl))
  f240 := Tryz.func203.trans (congrArg some (by kernel_rfl))
  f241 := Tryz.func204.trans (congrArg some (by kernel_rfl))
  f263 := Tryz.func200.trans (congrArg some (by kernel_rfl))
  f264 := Tryz.func201.trans (congrArg some (by kernel_rfl))
  f276 := Tryz.func207.trans (congrArg some (by kernel_rfl))
  f277 := Tryz.func208.trans (congrArg some (by kernel_rfl))
  t0 := Tryz.underlying0
  a0 := Tryz.isAgg0
  z0 := Tryz.sizeOf0
  v0 := Tryz.zeroValue0
  t3 := Tryz.underlying3
  a3 := Tryz.isAgg3
  z3 := Tryz.sizeOf3
  v3 := Tryz.zeroValue3
  t4 := Tryz.underlying4
  a4 := Tryz.isAgg4
  z4 := Tryz.sizeOf4
  v4 := Tryz.zeroValue4
  t5 := Tryz.underlying5
  a5 := Tryz.isAgg5
  z5 := Tryz.sizeOf5
  v5 := Tryz.zeroValue5
  t9 := Tryz.underlying9
  a9 := Tryz.isAgg9
  z9 := Tryz.sizeOf9
  v9 := Tryz.zeroValue9
  t20 := Tryz.underlying20
  a20 := Tryz.isAgg20
  z20 := Tryz.sizeOf20
  v20 := Tryz.zeroValue20
  t37 := Tryz.underlying22
  a37 := Tryz.isAgg22
  z37 := Tryz.sizeOf22
  v37 := Tryz.zeroValue22
  t46 := Tryz.underlying143
  a46 := Tryz.isAgg143
  z46 := Tryz.sizeOf143
  v46 := Tryz.zeroValue143
  t51 := Tryz.underlying238
  a51 := Tryz.isAgg238
  z51 := Tryz.sizeOf238
  v51 := Tryz.zeroValue238
  t53 := Tryz.underlying90
  a53 := Tryz.isAgg90
  z53 := Tryz.sizeOf90
  v53 := Tryz.zeroValue90
  t70 := Tryz.underlying228
  a70 := Tryz.isAgg228
  z70 := Tryz.sizeOf228
  v70 := Tryz.zeroValue228
  t72 := Tryz.underlying230
  a72 := Tryz.isAgg230
  z72 := Tryz.sizeOf230
  v72 := Tryz.zeroValue230
  t75 := Tryz.underlying233
  a75 := Tryz.isAgg233
  z75 := Tryz.sizeOf233
  v75 := Tryz.zeroValue233
  t76 := Tryz.underlying234
  a76 := Tryz.isAgg234
  z76 := Tryz.sizeOf234
  v76 := Tryz.zeroValue234
  t109 := Tryz.underlying225
  a109 := Tryz.isAgg225
  z109 := Tryz.sizeOf225
  v109 := Tryz.zeroValue225
  t127 := Tryz.underlying243
  a127 := Tryz.isAgg243
  z127 := Tryz.sizeOf243
  v127 := Tryz.zeroValue243
  t146 := Tryz.underlying239
  a146 := Tryz.isAgg239
  z146 := Tryz.sizeOf239
  v146 := Tryz.zeroValue239
  t148 := Tryz.underlying241
  a148 := Tryz.isAgg241
  z148 := Tryz.sizeOf241
  v148 := Tryz.zeroValue241
  t164 := Tryz.underlying249
  a164 := Tryz.isAgg249
  z164 := Tryz.sizeOf249
  v164 := Tryz.zeroValue249 }
theorem Tryz.Builder_Extra_105 : Builder.Extra Tryz.prog Tryz.lays105_ren := {
  sizeBuilder := by kernel_rfl
  liesBuilder := by kernel_rfl
  t5 := Tryz.underlying5
  a5 := Tryz.isAgg5
  z5 := Tryz.sizeOf5
  v5 := Tryz.zeroValue5
  infoByte := by kernel_rfl
  cellsByte := by kernel_rfl
  sizeByte := by kernel_rfl
  neB5 := by decide }
open Go.RowKit Go.Lib in
theorem Tryz.strings_Repeat (s : ByteArray) (c : Nat) (w : World) (hc : c ≤ 9223372036854775807) (hlen : s.size * c ≤ 140737488355328) :
    Calls Tryz.prog 164 #[.string s, .int .i64 c] w fun e w' => e = .returned (.string ⟨(Lib.repeatL s.data.toList c).toArray⟩) ∧ Below w.heap.size w w' := Any.strings_Repeat Tryz.lays105 Tryz.Builder_Extra_105 s c w hc hlen
end Go.Proofs
namespace Go.Proofs.YthmhfjeojkbpfaaGreatDoor
open Go.RowKit
open Go.Proofs.Tryz
section
theorem bs_toList (l : List UInt8) : (bs l).toList = l := by simp [bs]
theorem trimLeft0 (l : List UInt8) (w : World) :
  Calls Tryz.prog 158 #[.string (bs l), .string ⟨#[48]⟩] w fun e w' => e = .returned (.string (bs (l.dropWhile (· == 48)))) ∧ w = w' :=
 (Tryz.strings_TrimLeft_one (bs l) 48 dD w).mono fun _ _ ⟨h1, h2⟩ => ⟨h1, h2.symm⟩
theorem bs_extract (l : List UInt8) (a b : Nat) : (bs l).extract a b = bs ((l.drop a).take (b - a)) := by
 apply ByteArray.ext
 simp [bs, ByteArray.data_extract]
theorem indexByte_yes (c : UInt8) (B : List UInt8) : ∀ A : List UInt8, c ∉ A → Lib.indexByte (A ++ c :: B) c = (A.length : Int)
 | [], _ => by simp [Lib.indexByte]
 | b :: A, h => by
  simp only [List.mem_cons, not_or] at h
  have ih := indexByte_yes c B A h.2
  have e3 : (b == c) = false := by rw [beq_eq_false_iff_ne]; exact fun e => h.1 e.symm
  have a : ((A.length : Int) == -1) = false := by rw [beq_eq_false_iff_ne]; omega
  simp [Lib.indexByte, e3, ih]
theorem indexByte_no (c : UInt8) : ∀ l : List UInt8, c ∉ l → Lib.indexByte l c = -1
 | [], _ => rfl
 | b :: l, h => by
  simp only [List.mem_cons, not_or] at h
  have ih := indexByte_no c l h.2
  have e3 : (b == c) = false := by rw [beq_eq_false_iff_ne]; exact fun e => h.1 e.symm
  simp [Lib.indexByte, e3, ih]
theorem split_at (c : UInt8) : ∀ l : List UInt8, c ∈ l → ∃ A B, l = A ++ c :: B ∧ c ∉ A
 | [], h => by cases h
 | b :: l, h => by
  by_cases e : c = b
  ·
   exact ⟨[], l, by rw [e]; rfl, by simp⟩
  ·
   rcases List.mem_cons.1 h with h | h
   ·
    exact ab_ h e
   ·
    obtain ⟨A, B, h1, h2⟩ := split_at c l h
    exact ⟨b :: A, B, by rw [h1]; rfl, by simp [e, h2]⟩
theorem index1_yes (A B : List UInt8) (c : UInt8) (w : World) (h : c ∉ A) :
  Calls Tryz.prog 199 #[.string (bs (A ++ c :: B)), .string ⟨#[c]⟩] w fun e w' => e = .returned (.int .i64 (A.length : Int)) ∧ w = w' := by
 rw [← indexByte_yes c B A h]
 exact (Tryz.stringslite_Index_one (bs _) c w).mono fun _ _ ⟨a, b⟩ => ⟨a, b.symm⟩
theorem index1_no (l : List UInt8) (c : UInt8) (w : World) (h : c ∉ l) :
  Calls Tryz.prog 199 #[.string (bs l), .string ⟨#[c]⟩] w fun e w' => e = .returned (.int .i64 (-1)) ∧ w = w' := by
 rw [← indexByte_no c l h]
 exact (Tryz.stringslite_Index_one (bs _) c w).mono fun _ _ ⟨a, b⟩ => ⟨a, b.symm⟩
theorem ret_bool {a b : Bool} (h : a = b) : Ending.returned (.bool a) = Ending.returned (.bool b) := by rw [h]
theorem ret_ssb {a b a' b' : ByteArray} {c : Bool} (h1 : a = a') (h2 : b = b') : Ending.returned (.tuple #[.string a, .string b, .bool c]) = Ending.returned (.tuple #[.string a', .string b', .bool c]) := by
 rw [h1, h2]
set_option maxHeartbeats 400000 in
theorem slCut1_yes (A B : List UInt8) (c : UInt8) (w : World) (hl : (A ++ c :: B).length ≤ 100000000) (hc : c ∉ A) :
  Calls Tryz.prog 183 #[.string (bs (A ++ c :: B)), .string ⟨#[c]⟩] w fun e w' => e = .returned (.tuple #[.string (bs A), .string (bs B), .bool true]) ∧ Below w.heap.size w w' := by
 have hk : A.length < (A ++ c :: B).length := by simp
 have hA : (bs (A ++ c :: B)).extract 0 A.length = bs A := by
  rw [bs_extract]; simp
 have hB : (bs (A ++ c :: B)).extract (A.length + 1) (A ++ c :: B).length = bs B := by
  rw [bs_extract]
  have e : (A ++ c :: B).drop (A.length + 1) = B := by
   rw [← List.drop_drop]; simp
  rw [e, List.take_of_length_le (by simp; omega)]
 have hI := fun w => index1_yes A B c w hc
 have hs : (bs (A ++ c :: B)).size = (A ++ c :: B).length := bs_size _
 generalize A ++ c :: B = l at *
 generalize hkk : A.length = k at *
 clear hkk
 have hA' := hid hA; have hB' := hid hB; clear hA hB hc
 go_enter func183, ntmps183
 go_wp2_with (go_at_call 199; go_must (refine (hI _).mono ?_); rintro e w' ⟨rfl, rfl⟩)
 go_quiet (fail)
 go_wp2
 go_ret3
 exact ⟨ret_ssb hA'.out hB'.out, bdrewN _ _⟩
theorem slCut1_no (l : List UInt8) (c : UInt8) (w : World) (hc : c ∉ l) :
  Calls Tryz.prog 183 #[.string (bs l), .string ⟨#[c]⟩] w fun e w' => e = .returned (.tuple #[.string (bs l), .string (bs []), .bool false]) ∧ Below w.heap.size w w' := by
 have hI := fun w => index1_no l c w hc
 clear hc
 go_enter func183, ntmps183
 go_wp2_with (go_at_call 199; go_must (refine (hI _).mono ?_); rintro e w' ⟨rfl, rfl⟩)
 go_ret3
 exact ⟨rfl, br_ _ _⟩
theorem cut1_yes (A B : List UInt8) (c : UInt8) (w : World) (hl : (A ++ c :: B).length ≤ 100000000) (hc : c ∉ A) :
  Calls Tryz.prog 156 #[.string (bs (A ++ c :: B)), .string ⟨#[c]⟩] w fun e w' => e = .returned (.tuple #[.string (bs A), .string (bs B), .bool true]) ∧ Below w.heap.size w w' := by
 have hI := fun w => slCut1_yes A B c w hl hc
 clear hc hl
 go_enter func156, ntmps156
 go_wp2_with (go_at_call 183; go_must (refine (hI _).mono ?_); rintro e w' ⟨rfl, hb⟩)
 go_ret3
 exact ⟨rfl, hb⟩
theorem cut1_no (l : List UInt8) (c : UInt8) (w : World) (hc : c ∉ l) :
  Calls Tryz.prog 156 #[.string (bs l), .string ⟨#[c]⟩] w fun e w' => e = .returned (.tuple #[.string (bs l), .string (bs []), .bool false]) ∧ Below w.heap.size w w' := by
 have hI := fun w => slCut1_no l c w hc
 clear hc
 go_enter func156, ntmps156
 go_wp2_with (go_at_call 183; go_must (refine (hI _).mono ?_); rintro e w' ⟨rfl, hb⟩)
 go_ret3
 exact ⟨rfl, hb⟩
def isDig (b : UInt8) : Bool := decide (48 ≤ b.toNat) && decide (b.toNat ≤ 57)
theorem digs_contains (b : UInt8) : ([48, 49, 50, 51, 52, 53, 54, 55, 56, 57] : List UInt8).contains b = isDig b := by
 unfold isDig
 rw [Bool.eq_iff_iff]
 simp [← UInt8.toNat_inj]
 omega
theorem dropWhile_nil_iff (p : UInt8 → Bool) : ∀ l : List UInt8, l.dropWhile p = [] ↔ l.all p = true
 | [] => by simp
 | b :: l => by
  cases h : p b with
  | true => simp [h, dropWhile_nil_iff p l]
  | false => simp [h]
theorem trimS_nil_iff (l cs : List UInt8) : Lib.trimS l cs = [] ↔ l.all (cs.contains ·) = true := by
 unfold Lib.trimS Lib.trimLeftS Lib.trimRightS
 rw [dropWhile_nil_iff]
 constructor
 ·
  intro h
  cases hd : l.reverse.dropWhile (cs.contains ·) with
  | nil =>
   rw [dropWhile_nil_iff] at hd
   simpa using hd
  | cons x r =>
   exfalso
   rw [hd] at h
   have hx : cs.contains x = true := by
    simp at h
    simpa using h.2
   have := List.head_dropWhile_not (p := (cs.contains ·)) (l := l.reverse) (by rw [hd]; simp)
   simp only [hd, List.head_cons] at this
   rw [hx] at this; cases this
 ·
  intro h
  have : l.reverse.dropWhile (cs.contains ·) = [] := by
   rw [dropWhile_nil_iff]; simpa using h
  rw [this]; rfl
set_option maxHeartbeats 400000 in
theorem dec_plain (l : List UInt8) (w : World) (hl : l.length ≤ 100000000) :
  Calls Tryz.prog 157 #[.string (bs l)] w fun e w' => e = .returned (.bool (l.all isDig)) ∧ Below w.heap.size w w' := by
 have hT := fun w => Any.strings_Trim_laid Tryz.lays160 kR (bs l) ⟨#[48, 49, 50, 51, 52, 53, 54, 55, 56, 57]⟩ w (by rw [bs_size]; omega) dD (ascii_of_all dD)
 have hN : Lib.trimS l [48, 49, 50, 51, 52, 53, 54, 55, 56, 57] = [] ↔ l.all isDig = true := by
  rw [trimS_nil_iff]
  have : (fun x => ([48, 49, 50, 51, 52, 53, 54, 55, 56, 57] : List UInt8).contains x) = isDig := funext digs_contains
  rw [this]
 have HN := hid hN; clear hN
 go_enter func157, ntmps157
 go_wp2_with (go_at_call 96; go_must (refine (hT _).mono ?_); rintro e w' ⟨rfl, hb⟩)
 go_ret
 exact ⟨ret_bool (by rw [Bool.eq_iff_iff, List.isEmpty_iff]; exact HN.out), hb⟩
theorem ret_bs {m : Bool} {a b : ByteArray} (h : a = b) : Ending.returned (.tuple #[.bool m, .string a]) = Ending.returned (.tuple #[.bool m, .string b]) := by rw [h]
theorem bs_get0 (c : UInt8) (r : List UInt8) (h : 0 < (bs (c :: r)).size) : (bs (c :: r))[0]'h = c := rfl
theorem bs_tail (c : UInt8) (r : List UInt8) : (bs (c :: r)).extract 1 (r.length + 1) = bs r := by
 rw [bs_extract]; simp
theorem bs_ne (c : UInt8) (r : List UInt8) : (bs (c :: r)).toList.isEmpty = false := by simp [bs]
def signedL : List UInt8 → Bool × List UInt8
 | [] => (false, [])
 | c :: r => if c = 45 then (true, r) else if c = 43 then (false, r) else (false, c :: r)
set_option maxHeartbeats 400000 in
theorem dec_signed (l : List UInt8) (w : World) (hl : l.length ≤ 100000000) :
  Calls Tryz.prog 122 #[.string (bs l)] w fun e w' => e = .returned (.tuple #[.bool (signedL l).1, .string (bs (signedL l).2)]) ∧ Below w.heap.size w w' := by
 cases l with
 | nil =>
  have hT := bs_toList
  go_enter func122, ntmps122
  go_wp2
  go_ret2
  exact ⟨rfl, br_ _ _⟩
 | cons c r =>
  have b := bs_get0 c r
  have hs : (bs (c :: r)).size = r.length + 1 := by rw [bs_size]; rfl
  have he := bs_ne c r
  have hb := bs_tail c r
  have Hb := hid hb
  simp only [List.length_cons] at hl
  by_cases h1 : c = 45
  ·
   subst h1
   generalize bs (45 :: r) = s at *
   clear hb
   go_enter func122, ntmps122
   go_wp2
   go_quiet (fail)
   go_wp2
   go_ret2
   exact ⟨ret_bs Hb.out, bdrewN _ _⟩
  ·
   by_cases h2 : c = 43
   ·
    subst h2
    generalize bs (43 :: r) = s at *
    clear hb
    go_enter func122, ntmps122
    go_wp2
    go_quiet (fail)
    go_wp2
    go_ret2
    exact ⟨ret_bs Hb.out, bdrewN _ _⟩
   ·
    have d : ((c.toNat : Int) == 45) = false := by
     rw [beq_eq_false_iff_ne]; intro h; exact h1 (UInt8.toNat_inj.1 (by show c.toNat = 45; omega))
    have f : ((c.toNat : Int) == 43) = false := by
     rw [beq_eq_false_iff_ne]; intro h; exact h2 (UInt8.toNat_inj.1 (by show c.toNat = 43; omega))
    have a : signedL (c :: r) = (false, c :: r) := by simp [signedL, h1, h2]
    rw [a]
    generalize bs (c :: r) = s at *
    clear hb a h1 h2
    go_enter func122, ntmps122
    go_wp2
    go_ret2
    exact ⟨rfl, br_ _ _⟩
theorem results4 {fn : Func} {t u v x : Tmp} (h : fn.results = #[.tmp t, .tmp u, .tmp v, .tmp x]) (tmps : Array Value) (P : Program) (w : World) :
  (results fn tmps).run P w = .ok (.tuple #[tmps.getD t undef, tmps.getD u undef, tmps.getD v undef, tmps.getD x undef]) w := by
 simp [results, h]
theorem ret_ssbb {a b a' b' : ByteArray} {c d d' : Bool} (h1 : a = a') (h2 : b = b') (h3 : d = d') : Ending.returned (.tuple #[.string a, .string b, .bool c, .bool d]) = Ending.returned (.tuple #[.string a', .string b', .bool c, .bool d']) := by
 rw [h1, h2, h3]
def cutDot : List UInt8 → List UInt8 × List UInt8 × Bool
 | [] => ([], [], false)
 | c :: r => if c = 46 then ([], r, true) else (c :: (cutDot r).1, (cutDot r).2)
theorem cutDot_yes (B : List UInt8) : ∀ A : List UInt8, 46 ∉ A → cutDot (A ++ 46 :: B) = (A, B, true)
 | [], _ => by simp [cutDot]
 | c :: A, h => by
  simp only [List.mem_cons, not_or] at h
  have ih := cutDot_yes B A h.2
  simp [cutDot, ih, Ne.symm h.1]
theorem cutDot_no : ∀ l : List UInt8, 46 ∉ l → cutDot l = (l, [], false)
 | [], _ => rfl
 | c :: l, h => by
  simp only [List.mem_cons, not_or] at h
  have ih := cutDot_no l h.2
  simp [cutDot, ih, Ne.symm h.1]
theorem cutDot_len (l : List UInt8) : (cutDot l).1.length + (cutDot l).2.1.length ≤ l.length := by
 induction l with
 | nil => simp [cutDot]
 | cons c r ih => unfold cutDot; split <;> simp; omega
theorem dec_cut (l : List UInt8) (w : World) (hl : l.length ≤ 100000000) :
  Calls Tryz.prog 156 #[.string (bs l), .string ⟨#[46]⟩] w fun e w' => e = .returned (.tuple #[.string (bs (cutDot l).1), .string (bs (cutDot l).2.1), .bool (cutDot l).2.2]) ∧ Below w.heap.size w w' := by
 by_cases h : 46 ∈ l
 ·
  obtain ⟨A, B, rfl, hA⟩ := split_at 46 l h
  rw [cutDot_yes B A hA]; exact cut1_yes A B 46 w hl hA
 ·
  rw [cutDot_no l h]; exact cut1_no l 46 w h
def mantOk (l : List UInt8) : Bool := (cutDot l).1.all isDig && (cutDot l).2.1.all isDig && decide (0 < (cutDot l).1.length + (cutDot l).2.1.length)
set_option maxHeartbeats 400000 in
theorem dec_mantissa (l : List UInt8) (w : World) (hl : l.length ≤ 100000000) :
    Calls Tryz.prog 123 #[.string (bs l)] w fun e w' => e = .returned (.tuple #[.string (bs (cutDot l).1), .string (bs (cutDot l).2.1), .bool (cutDot l).2.2, .bool (mantOk l)]) ∧ Below w.heap.size w w' := by
  have c := cutDot_len l
  have hm : mantOk l = ((cutDot l).1.all isDig && (cutDot l).2.1.all isDig && decide (0 < (cutDot l).1.length + (cutDot l).2.1.length)) := rfl
  have b := fun w => dec_cut l w hl
  generalize mantOk l = ok at *
  generalize cutDot l = p at *
  obtain ⟨A, B, f⟩ := p
  simp only at c hm b
  have Hm := hid hm; clear hm
  have j : (bs A).size = A.length := bs_size A
  have k : (bs B).size = B.length := bs_size B
  by_cases hA : A.all isDig = true
  · by_cases hB : B.all isDig = true
    · have a : ok = decide (0 < A.length + B.length) := by rw [Hm.out, hA, hB]; rfl
      have HA := hid hA; have HB := hid hB; have Hok := hid a; clear a hA hB
      go_enter func123, ntmps123
      go_wp2_with first | (go_at_call 156; go_must (refine (b _).mono ?_); rintro e d ⟨rfl, hb1⟩) | (go_at_call_of 157 (Value.string (bs A)); go_must (refine (dec_plain A _ oO).mono ?_); rintro e g ⟨rfl, hb2⟩; rw [HA.out]) | (go_at_call_of 157 (Value.string (bs B)); go_must (refine (dec_plain B _ oO).mono ?_); rintro e i ⟨rfl, hb3⟩; rw [HB.out])
      refine bodyPost_ret (results4 rfl _ _ _) rfl ?_
      refine ⟨ret_ssbb rfl rfl ?_, btr (btr hb1 hb2) hb3⟩
      rw [Hok.out, Bool.eq_iff_iff]; simp; omega
    · have hB' : B.all isDig = false := by simpa using hB
      have a : ok = false := by rw [Hm.out, hA, hB']; rfl
      have HA := hid hA; have HB := hid hB'; have Hok := hid a; clear a hA hB hB'
      go_enter func123, ntmps123
      go_wp2_with first | (go_at_call 156; go_must (refine (b _).mono ?_); rintro e d ⟨rfl, hb1⟩) | (go_at_call_of 157 (Value.string (bs A)); go_must (refine (dec_plain A _ oO).mono ?_); rintro e g ⟨rfl, hb2⟩; rw [HA.out]) | (go_at_call_of 157 (Value.string (bs B)); go_must (refine (dec_plain B _ oO).mono ?_); rintro e i ⟨rfl, hb3⟩; rw [HB.out])
      refine bodyPost_ret (results4 rfl _ _ _) rfl ?_
      exact ⟨ret_ssbb rfl rfl Hok.out.symm, btr (btr hb1 hb2) hb3⟩
  · have hA' : A.all isDig = false := by simpa using hA
    have a : ok = false := by rw [Hm.out, hA']; rfl
    have HA := hid hA'; have Hok := hid a; clear a hA hA'
    go_enter func123, ntmps123
    go_wp2_with first | (go_at_call 156; go_must (refine (b _).mono ?_); rintro e d ⟨rfl, hb1⟩) | (go_at_call_of 157 (Value.string (bs A)); go_must (refine (dec_plain A _ oO).mono ?_); rintro e g ⟨rfl, hb2⟩; rw [HA.out])
    refine bodyPost_ret (results4 rfl _ _ _) rfl ?_
    exact ⟨ret_ssbb rfl rfl Hok.out.symm, btr hb1 hb2⟩
end
section
def dbl : List Nat → List Nat × Nat
 | [] => ([], 0)
 | x :: r => ((2 * x + (dbl r).2) % 10 :: (dbl r).1, (2 * x + (dbl r).2) / 10)
theorem dbl_len (l : List Nat) : (dbl l).1.length = l.length := by
 induction l with
 | nil => rfl
 | cons x r ih => simp [dbl, ih]
theorem dbl_carry (l : List Nat) (h : ∀ x ∈ l, x < 10) : (dbl l).2 ≤ 1 := by
 induction l with
 | nil => simp [dbl]
 | cons x r ih =>
  have a := h x (by simp)
  have b := ih (fun y hy => h y (by simp [hy]))
  simp [dbl]; omega
theorem dbl_digits (l : List Nat) : ∀ x ∈ (dbl l).1, x < 10 := by
 induction l with
 | nil => simp [dbl]
 | cons x r ih =>
  intro y hy
  simp [dbl] at hy
  rcases hy with rfl | hy
  ·
   omega
  ·
   exact ih y hy
def u8s (l : List Nat) : List Value := l.map fun (x : Nat) => Value.int .u8 (x : Int)
theorem u8s_len (l : List Nat) : (u8s l).length = l.length := by simp [u8s]
theorem dbl_step (ds : List Nat) (j : Nat) (hj : j < ds.length) :
  dbl (ds.drop j) = ((2 * ds[j] + (dbl (ds.drop (j + 1))).2) % 10 :: (dbl (ds.drop (j + 1))).1, (2 * ds[j] + (dbl (ds.drop (j + 1))).2) / 10) := by
 rw [List.drop_eq_getElem_cons hj]; rfl
set_option maxHeartbeats 400000 in
theorem dec_double (b : Nat) (cap : Nat) (ds : List Nat) (w : World) (hr : BRow w b (u8s ds)) (hd : ∀ x ∈ ds, x < 10) (hl : ds.length ≤ maxLen) (B : Nat) (hB : B ≤ b) :
  Calls Tryz.prog 159 #[.slice (some ⟨b, 0, none⟩) ds.length cap] w fun e w' => e = .returned (.int .i64 (dbl ds).2) ∧ BRow w' b (u8s (dbl ds).1) ∧ Below B w w' := by
 unfold maxLen at hl
 go_enter func159, ntmps159
 go_wp2_with fail
 go_loopw [3, 4] (fun c i wr => ∃ (k : Nat) (f : Int), k ≤ ds.length ∧ f = (k : Int) - 1 ∧ i = .int .i64 f ∧ c = .int .u8 ((dbl (ds.drop k)).2 : Int) ∧ BRow wr b (u8s (ds.take k ++ (dbl (ds.drop k)).1)) ∧ Below B w wr) (fun _ i _ => (intOf i + 1).toNat)
 case atStart => exact ⟨ds.length, _, nr_ _, rfl, rfl, by simp [dbl], by simpa [dbl] using hr, br_ _ _⟩
 case round =>
  obtain ⟨k, f, hk, m, rfl, rfl, a, d⟩ := hrel
  cases k with
  | zero =>
   obtain rfl : f = -1 := by omega
   clear m
   have hc := dbl_carry ds hd
   have q : ds.drop 0 = ds := by simp
   rw [q] at a ⊢
   have Hrow := hid a; clear a
   go_wp2
   go_ret
   exact ⟨rfl, by simpa using Hrow.out, d⟩
  | succ j =>
   obtain rfl : f = (j : Int) := by omega
   clear m
   have hj : j < ds.length := by omega
   have hc := dbl_carry (ds.drop (j + 1)) (fun x hx => hd x (List.mem_of_mem_drop hx))
   have hx := hd ds[j] (by simp)
   have n := dbl_step ds j hj
   have s := d.size
   obtain ⟨o, t⟩ := a j (.int .u8 (ds[j] : Int)) (by
    have g : j < (ds.take (j + 1)).length := by simp; omega
    rw [u8s, List.getElem?_map, List.getElem?_append_left g, List.getElem?_take, if_pos oO, List.getElem?_eq_getElem hj]; rfl)
   have l := a.set j (.int .u8 ((2 * (ds[j] : Int) + ((dbl (ds.drop (j + 1))).2 : Int)) % 10)) (by simp [u8s]; omega)
   have Hset := hid l; have Hst := hid n; clear l n a hr
   generalize hgc : (dbl (ds.drop (j + 1))).2 = c at *
   generalize hgx : ds[j] = x at *
   have Hgc := hid hgc; have Hgx := hid hgx; clear hgc hgx
   go_wp2
   refine ⟨⟨j, _, by omega, rfl, rfl, ?_, ?_, d.setCell hB _⟩, by simp [intOf]⟩
   ·
    rw [Hst.out]; go_num
   ·
    have e : (u8s (List.take (j + 1) ds ++ (dbl (List.drop (j + 1) ds)).fst)).set j (Value.int IntKind.u8 ((2 * (x : Int) + (c : Int)) % 10)) = u8s (List.take j ds ++ (dbl (List.drop j ds)).fst) := by
     rw [Hst.out]
     rw [List.take_succ_eq_append_getElem hj]
     have g : (List.map (fun (x : Nat) => Value.int .u8 (x : Int)) (List.take j ds)).length = j := by simp; omega
     simp only [u8s, List.map_append, List.append_assoc]
     rw [List.set_append_right _ _ oO, g, Nat.sub_self]
     simp
    rw [← e]; exact Hset.out
def rounds : Nat → Int → List Nat → Int × List Nat
 | 0, n, d => (n, d)
 | k + 1, n, d => rounds k (2 * n + (dbl d).2) (dbl d).1
def digitsOf (l : List UInt8) : List Nat := l.map fun c => c.toNat - 48
def natOf (l : List UInt8) : Nat := l.foldl (fun n c => 10 * n + (c.toNat - 48)) 0
def rawL (whole rest : List UInt8) : Option Int :=
 if 5 < (whole.dropWhile (· == 48)).length then none
 else some ((rounds 16 (natOf (whole.dropWhile (· == 48))) (digitsOf rest)).1 + (dbl (rounds 16 (natOf (whole.dropWhile (· == 48))) (digitsOf rest)).2).2)
def valueL (minus : Bool) (whole rest : List UInt8) : Int × Bool :=
 match rawL whole rest with
 | none => (0, false)
 | some n => let m := if minus then -n else n; (m, fitsB m)
theorem natOf_snoc (l : List UInt8) (c : UInt8) : natOf (l ++ [c]) = 10 * natOf l + (c.toNat - 48) := by simp [natOf]
theorem natOf_from (l : List UInt8) (h : ∀ c ∈ l, isDig c = true) : ∀ n, l.foldl (fun n c => 10 * n + (c.toNat - 48)) n < (n + 1) * 10 ^ l.length := by
 induction l with
 | nil => intro n; simp
 | cons c r ih =>
  intro n
  have b := ih (fun x hx => h x (by simp [hx])) (10 * n + (c.toNat - 48))
  have a := h c (by simp)
  simp [isDig] at a
  rw [List.foldl_cons, List.length_cons, Nat.pow_succ]
  have d : (10 * n + (c.toNat - 48) + 1) * 10 ^ r.length ≤ (n + 1) * (10 ^ r.length * 10) := by
   rw [Nat.mul_comm (10 ^ r.length) 10, ← Nat.mul_assoc]
   exact Nat.mul_le_mul_right _ oO
  omega
theorem natOf_lt (l : List UInt8) (h : ∀ c ∈ l, isDig c = true) : natOf l < 10 ^ l.length := by
 have := natOf_from l h 0
 rw [Nat.zero_add, Nat.one_mul] at this
 exact this
theorem digitsOf_lt (l : List UInt8) (h : ∀ c ∈ l, isDig c = true) : ∀ x ∈ digitsOf l, x < 10 := by
 intro x hx
 simp [digitsOf] at hx
 obtain ⟨c, hc, rfl⟩ := hx
 have a := h c hc
 simp [isDig] at a
 omega
theorem dec_value_big (minus : Bool) (whole rest : List UInt8) (w : World) (hb : 5 < (whole.dropWhile (· == 48)).length) :
  Calls Tryz.prog 124 #[.bool minus, .string (bs whole), .string (bs rest)] w fun e w' => e = .returned (.tuple #[.int .i64 0, .bool false]) ∧ Below w.heap.size w w' := by
 have hs := bs_size (whole.dropWhile (· == 48))
 have hT := fun w => trimLeft0 whole w
 generalize whole.dropWhile (· == 48) = t at *
 go_enter func124, ntmps124
 go_wp2_with (go_at_call 158; go_must (refine (hT _).mono ?_); rintro e a ⟨rfl, rfl⟩)
 go_ret2
 exact ⟨rfl, br_ _ _⟩
theorem byteVals_at (l : List UInt8) (k : Nat) (h : k < l.length) : (byteVals l)[k]? = some (.int .u8 (l[k].toNat : Int)) := by
 unfold byteVals
 rw [List.getElem?_map, List.getElem?_eq_getElem h]; rfl
theorem natOf_take (l : List UInt8) (k : Nat) (h : k < l.length) : natOf (l.take (k + 1)) = 10 * natOf (l.take k) + (l[k].toNat - 48) := by
 rw [List.take_succ_eq_append_getElem h, natOf_snoc]
theorem natOf_take_lt (l : List UInt8) (k : Nat) (hl : l.length ≤ 5) (h : ∀ c ∈ l, isDig c = true) : natOf (l.take k) < 100000 := by
 have a := natOf_lt (l.take k) (fun c hc => h c (List.mem_of_mem_take hc))
 have b : 10 ^ (l.take k).length ≤ 10 ^ 5 := Nat.pow_le_pow_right dD (by simp; omega)
 omega
theorem isDig_bounds {c : UInt8} (h : isDig c = true) : 48 ≤ c.toNat ∧ c.toNat ≤ 57 := by
 simpa [isDig] using h
theorem dec_double' (b : Nat) (cap n : Nat) (ds : List Nat) (w : World) (hn : ds.length = n) (hr : BRow w b (u8s ds)) (hd : ∀ x ∈ ds, x < 10) (hl : n ≤ 3000) (B : Nat) (hB : B ≤ b) :
  Calls Tryz.prog 159 #[.slice (some ⟨b, 0, none⟩) n cap] w fun e w' => e = .returned (.int .i64 (dbl ds).2) ∧ BRow w' b (u8s (dbl ds).1) ∧ Below B w w' := by
 subst hn
 exact dec_double b cap ds w hr hd (by unfold maxLen; omega) B hB
theorem u8s_append (a b : List Nat) : u8s (a ++ b) = u8s a ++ u8s b := by simp [u8s]
theorem digitsOf_len (l : List UInt8) : (digitsOf l).length = l.length := by simp [digitsOf]
theorem mix_at (l : List UInt8) (k : Nat) (h : k < l.length) : (u8s ((digitsOf l).take k) ++ byteVals (l.drop k))[k]? = some (.int .u8 (l[k].toNat : Int)) := by
 have e : (u8s ((digitsOf l).take k)).length = k := by rw [u8s_len, List.length_take, digitsOf_len]; omega
 rw [List.getElem?_append_right oO, e, Nat.sub_self, List.drop_eq_getElem_cons h]; rfl
theorem mix_set (l : List UInt8) (k : Nat) (h : k < l.length) (h1 : 48 ≤ l[k].toNat) : (u8s ((digitsOf l).take k) ++ byteVals (l.drop k)).set k (.int .u8 ((l[k].toNat : Int) - 48)) = u8s ((digitsOf l).take (k + 1)) ++ byteVals (l.drop (k + 1)) := by
 have e : (u8s ((digitsOf l).take k)).length = k := by rw [u8s_len, List.length_take, digitsOf_len]; omega
 rw [List.set_append_right _ _ oO, e, Nat.sub_self, List.drop_eq_getElem_cons h, List.take_succ_eq_append_getElem (by rw [digitsOf_len]; exact h), u8s_append, List.append_assoc]
 congr 1
 have a : (digitsOf l)[k]'(by rw [digitsOf_len]; exact h) = l[k].toNat - 48 := by simp [digitsOf]
 have b : ((l[k].toNat - 48 : Nat) : Int) = (l[k].toNat : Int) - 48 := by omega
 rw [a]
 simp only [u8s, List.map_cons, List.map_nil, b]
 rfl
theorem ret_ib {a b : Int} {c d : Bool} (h : a = b) (h' : c = d) : Ending.returned (.tuple #[.int .i64 a, .bool c]) = Ending.returned (.tuple #[.int .i64 b, .bool d]) := by rw [h, h']
set_option maxRecDepth 100000 in
set_option maxHeartbeats 2000000 in
theorem dec_value_fit (minus : Bool) (whole rest : List UInt8) (w : World) (h1 : (whole.dropWhile (· == 48)).length ≤ 5) (h2 : rest.length ≤ 3000) (h3 : ∀ c ∈ whole, isDig c = true) (h4 : ∀ c ∈ rest, isDig c = true) :
    Calls Tryz.prog 124 #[.bool minus, .string (bs whole), .string (bs rest)] w fun e w' => e = .returned (.tuple #[.int .i64 (valueL minus whole rest).1, .bool (valueL minus whole rest).2]) ∧ Below w.heap.size w w' := by
  have hT := fun w => trimLeft0 whole w
  have hv : valueL minus whole rest = (let m := if minus then -((rounds 16 (natOf (whole.dropWhile (· == 48))) (digitsOf rest)).1 + (dbl (rounds 16 (natOf (whole.dropWhile (· == 48))) (digitsOf rest)).2).2) else ((rounds 16 (natOf (whole.dropWhile (· == 48))) (digitsOf rest)).1 + (dbl (rounds 16 (natOf (whole.dropWhile (· == 48))) (digitsOf rest)).2).2); (m, fitsB m)) := by
    unfold valueL rawL
    rw [if_neg oO]
  have ht : ∀ c ∈ whole.dropWhile (· == 48), isDig c = true := fun c hc => h3 c (List.dropWhile_sublist _ |>.subset hc)
  clear h3
  generalize whole.dropWhile (· == 48) = t at *
  have hs := bs_size t
  have R := bs_size rest
  have Hv := hid hv; have Ht := hid ht; have H4 := hid h4; clear hv ht h4
  go_enter func124, ntmps124
  go_wp2_with first | (go_at_call 158; go_must (refine (hT _).mono ?_); rintro e J ⟨rfl, rfl⟩) | (refine wpList_conv_bytes rfl _ _ _ _ rfl u9_ u22_ u5_ _ rfl ?_; intro cap J D a hg y)
  have hb1 := below_of_grown hg
  have Hrow := hid a; clear a hg hT
  go_loop [8, 10, 21] (fun n _ i => ∃ k : Nat, k ≤ t.length ∧ i = .int .i64 k ∧ n = .int .i64 (natOf (t.take k) : Int)) (fun _ _ i => t.length - (intOf i).toNat)
  case atStart => exact ⟨0, nl_ _, rfl, rfl⟩
  case round =>
    obtain ⟨k, hk, rfl, rfl⟩ := hrel
    have G := natOf_take_lt t k h1 Ht.out
    by_cases hkl : k < t.length
    · have s := natOf_take t k hkl
      have hd := isDig_bounds (Ht.out t[k] (by simp))
      have hc := (Hrow.out k _ (byteVals_at t k hkl)).1
      have Hstep := hid s; clear s
      generalize natOf (t.take k) = N at *
      generalize t[k].toNat = c at *
      go_wp2
      go_round
      case rel => exact ⟨k + 1, by omega, by go_num, by rw [Hstep.out]; go_num⟩
      case measure => simp [intOf]; omega
    · obtain rfl : k = t.length := by omega
      rw [List.take_length] at G
      rw [List.take_length]
      clear Hrow
      go_wp2_with (refine wpList_conv_bytes rfl _ _ _ _ rfl u9_ u22_ u5_ _ rfl ?_; intro K L v a hg E)
      have hb2 := btr hb1 (below_of_grown hg)
      rw [y] at a
      have hB : w.heap.size ≤ w.heap.size + 1 := by omega
      clear D hg hb1
      go_loopw [12, 36] (fun _ i wr => ∃ k : Nat, k ≤ rest.length ∧ i = .int .i64 k ∧ BRow wr (w.heap.size + 1) (u8s ((digitsOf rest).take k) ++ byteVals (rest.drop k)) ∧ Below w.heap.size w wr) (fun _ i _ => rest.length - (intOf i).toNat)
      case atStart => exact ⟨0, nl_ _, rfl, by simpa [u8s] using (show BRow L (w.heap.size + 1) (byteVals rest) from a), hb2⟩
      case round =>
        obtain ⟨k, hk, rfl, b, o⟩ := hrel
        clear a hb2 y E v
        by_cases hkl : k < rest.length
        · have hd := isDig_bounds (H4.out rest[k] (by simp))
          obtain ⟨hc, T⟩ := b k _ (mix_at rest k hkl)
          have q := b.set k (.int .u8 ((rest[k].toNat : Int) - 48)) (by
            have := (List.getElem?_eq_some_iff.1 (mix_at rest k hkl)).1; exact this)
          rw [mix_set rest k hkl hd.1] at q
          have Hset := hid q; clear q b
          generalize rest[k].toNat = c at *
          go_wp2
          go_roundw
          case rel => exact ⟨k + 1, by omega, by go_num, Hset.out, o.setCell hB _⟩
          case measure => simp [intOf]; omega
        · obtain rfl : k = rest.length := by omega
          have u : BRow wr (w.heap.size + 1) (u8s (digitsOf rest)) := by
            have M : (digitsOf rest).take rest.length = digitsOf rest := List.take_of_length_le (by rw [digitsOf_len]; omega)
            have O : rest.drop rest.length = [] := by simp
            rw [M, O] at b
            simpa [byteVals] using b
          have Hrow3 := hid u; clear b u
          have l := digitsOf_len rest
          have g := digitsOf_lt rest H4.out
          have Hdl := hid l; have Hdd := hid g; clear l g
          generalize digitsOf rest = d0 at *
          generalize natOf t = n0 at *
          obtain ⟨wo, rfl⟩ : ∃ wo : World, wo = wr := ⟨_, rfl⟩
          go_wp2
          go_loopw [8, 46] (fun n i wr => ∃ (k : Nat) (N : Int) (d : List Nat), k ≤ 16 ∧ i = .int .i64 k ∧ n = .int .i64 N ∧ 0 ≤ N ∧ N + 1 ≤ 100000 * 2 ^ k ∧ d.length = rest.length ∧ (∀ x ∈ d, x < 10) ∧ BRow wr (w.heap.size + 1) (u8s d) ∧ Below w.heap.size w wr ∧ rounds (16 - k) N d = rounds 16 n0 d0) (fun _ i _ => 16 - (intOf i).toNat)
          case atStart => exact ⟨0, n0, d0, by omega, rfl, rfl, by omega, by simp; omega, Hdl.out, Hdd.out, Hrow3.out, o, rfl⟩
          case round =>
            obtain ⟨k, N, d, hk, rfl, rfl, U, A, l, g, a, f, B⟩ := hrel
            have F : (2 : Int) ^ k ≤ 65536 := by
              have h := Nat.pow_le_pow_right (show 0 < 2 by decide) hk
              have h2 : ((2 ^ k : Nat) : Int) ≤ ((2 ^ 16 : Nat) : Int) := by exact_mod_cast h
              simpa using h2
            have V : N < 6553600000 := by omega
            have X := dbl_carry d g
            have P := f.size
            have Hrr := hid B; have Hdl2 := hid l; have Hdd2 := hid g; have HN1 := hid A
            have Hrow := hid a
            clear B l g A a o F
            by_cases hk16 : k < 16
            · go_wp2_with (go_at_call 159; go_must (refine (dec_double' _ _ _ d _ Hdl2.out Hrow.out Hdd2.out h2 w.heap.size hB).mono ?_); rintro e H ⟨rfl, j, hb4⟩)
              go_roundw
              case rel =>
                refine ⟨k + 1, 2 * N + (dbl d).2, (dbl d).1, by omega, by go_num, by go_num, by omega, ?_, by rw [dbl_len]; exact Hdl2.out, dbl_digits d, j, f.trans hb4, ?_⟩
                · have := HN1.out
                  rw [Int.pow_succ]; omega
                · rw [← Hrr.out, show 16 - k = (16 - (k + 1)) + 1 from by omega]; rfl
              case measure => simp [intOf]; omega
            · obtain rfl : k = 16 := by omega
              have C : (rounds 16 n0 d0) = (N, d) := by rw [← Hrr.out]; rfl
              have Hrd := hid C; clear C
              cases minus with
              | true =>
                go_wp2_with first | (go_at_call 159; go_must (refine (dec_double' _ _ _ d _ Hdl2.out Hrow.out Hdd2.out h2 w.heap.size hB).mono ?_); rintro e H ⟨rfl, j, hb4⟩) | (go_at_call 111; go_must (refine (fix_Fits _ _).mono ?_); rintro e Q ⟨rfl, rfl⟩)
                go_ret2
                refine ⟨?_, f.trans hb4⟩
                rw [Hv.out, Hrd.out]; rfl
              | false =>
                go_wp2_with first | (go_at_call 159; go_must (refine (dec_double' _ _ _ d _ Hdl2.out Hrow.out Hdd2.out h2 w.heap.size hB).mono ?_); rintro e H ⟨rfl, j, hb4⟩) | (go_at_call 111; go_must (refine (fix_Fits _ _).mono ?_); rintro e Q ⟨rfl, rfl⟩)
                go_ret2
                refine ⟨?_, f.trans hb4⟩
                rw [Hv.out, Hrd.out]; rfl
end
section
theorem ext_take (l : List UInt8) (n : Nat) : (bs l).extract 0 n = bs (l.take n) := by rw [bs_extract]; simp
theorem ext_drop (l : List UInt8) (n m : Nat) (h : m = l.length) : (bs l).extract n m = bs (l.drop n) := by
 subst h; rw [bs_extract, List.take_of_length_le (by simp)]
end
section
def wholeD (digits : List UInt8) (p : Int) : List UInt8 := digits.take p.toNat ++ List.replicate (p.toNat - digits.length) 48
def restD (digits : List UInt8) (p : Int) : List UInt8 := List.replicate (-p).toNat 48 ++ digits.drop p.toNat
theorem natOf_mono (a b : List UInt8) : natOf a ≤ natOf (a ++ b) := by
 unfold natOf
 rw [List.foldl_append]
 generalize a.foldl (fun n c => 10 * n + (c.toNat - 48)) 0 = n
 induction b generalizing n with
 | nil => simp
 | cons c r ih =>
  rw [List.foldl_cons]
  exact nt_ oO (ih _)
theorem natOf_take_le (l : List UInt8) (k : Nat) : natOf (l.take k) ≤ natOf l := by
 conv => rhs; rw [← List.take_append_drop k l]
 exact natOf_mono _ _
theorem natOf_ge (l : List UInt8) (n : Nat) : n * 10 ^ l.length ≤ l.foldl (fun n c => 10 * n + (c.toNat - 48)) n := by
 induction l generalizing n with
 | nil => simp
 | cons c r ih =>
  rw [List.foldl_cons, List.length_cons, Nat.pow_succ]
  refine nt_ ?_ (ih _)
  rw [Nat.mul_comm (10 ^ r.length) 10, ← Nat.mul_assoc]
  exact Nat.mul_le_mul_right _ oO
end
section
theorem dec_value (minus : Bool) (whole rest : List UInt8) (w : World) (h2 : rest.length ≤ 3000) (h3 : ∀ c ∈ whole, isDig c = true) (h4 : ∀ c ∈ rest, isDig c = true) :
    Calls Tryz.prog 124 #[.bool minus, .string (bs whole), .string (bs rest)] w fun e w' => e = .returned (.tuple #[.int .i64 (valueL minus whole rest).1, .bool (valueL minus whole rest).2]) ∧ Below w.heap.size w w' := by
  by_cases hb : 5 < (whole.dropWhile (· == 48)).length
  · have hv : valueL minus whole rest = (0, false) := by unfold valueL rawL; rw [if_pos hb]
    rw [hv]
    exact dec_value_big minus whole rest w hb
  · exact dec_value_fit minus whole rest w oO h2 h3 h4
def parseL (l : List UInt8) : Int × Bool :=
 if mantOk (signedL l).2 then
  (if (valueL (signedL l).1 (cutDot (signedL l).2).1 (cutDot (signedL l).2).2.1).2 then ((valueL (signedL l).1 (cutDot (signedL l).2).1 (cutDot (signedL l).2).2.1).1, true) else (0, false))
 else (0, false)
theorem signedL_len (l : List UInt8) : (signedL l).2.length ≤ l.length := by
 cases l with
 | nil => simp [signedL]
 | cons c r =>
  simp only [signedL]
  split
  ·
   simp
  ·
   split <;> simp
theorem mantOk_digits (l : List UInt8) (h : mantOk l = true) : (∀ c ∈ (cutDot l).1, isDig c = true) ∧ (∀ c ∈ (cutDot l).2.1, isDig c = true) := by
 simp only [mantOk, Bool.and_eq_true, List.all_eq_true] at h
 exact ⟨h.1.1, h.1.2⟩
theorem dec_Parse_long (l : List UInt8) (w : World) (hl : 64 < l.length) :
  Calls Tryz.prog 94 #[.string (bs l)] w fun e w' => e = .returned (.tuple #[.int .i64 0, .bool false]) ∧ w = w' := by
 have hs := bs_size l
 go_enter func94, ntmps94
 go_wp2_with fail
 go_ret2
 exact ⟨rfl, rfl⟩
set_option maxHeartbeats 1000000 in
theorem dec_Parse_short (l : List UInt8) (w : World) (hl : l.length ≤ 64) :
  Calls Tryz.prog 94 #[.string (bs l)] w fun e w' => e = .returned (.tuple #[.int .i64 (parseL l).1, .bool (parseL l).2]) ∧ Below w.heap.size w w' := by
 have hs := bs_size l
 have hS := fun w => dec_signed l w oO
 have b := signedL_len l
 have hP : parseL l = (if mantOk (signedL l).2 then (if (valueL (signedL l).1 (cutDot (signedL l).2).1 (cutDot (signedL l).2).2.1).2 then ((valueL (signedL l).1 (cutDot (signedL l).2).1 (cutDot (signedL l).2).2.1).1, true) else (0, false)) else (0, false)) := rfl
 generalize signedL l = sr at *
 obtain ⟨m, r⟩ := sr
 simp only at hP hS b
 have hM := fun w => dec_mantissa r w oO
 have c := cutDot_len r
 have a := mantOk_digits r
 generalize mantOk r = ok at *
 generalize cutDot r = p at *
 obtain ⟨A, B, f⟩ := p
 simp only at hP hM a c
 cases ok with
 | false =>
  rw [if_neg dD] at hP
  have HP := hid hP; clear hP a
  go_enter func94, ntmps94
  go_wp2_with first | (go_at_call 122; go_must (refine (hS _).mono ?_); rintro e d ⟨rfl, hb1⟩) | (go_at_call 123; go_must (refine (hM _).mono ?_); rintro e g ⟨rfl, hb2⟩)
  go_ret2
  exact ⟨by rw [HP.out]; rfl, btr hb1 hb2⟩
 | true =>
  rw [if_pos rfl] at hP
  obtain ⟨hA, hB⟩ := a rfl
  have hV := fun w => dec_value m A B w oO hA hB
  have HA := hid hA; have HB := hid hB; clear a hA hB
  generalize valueL m A B = v at *
  obtain ⟨n, fit⟩ := v
  simp only at hP hV
  have HP := hid hP; clear hP
  cases fit
  all_goals
   go_enter func94, ntmps94
   go_wp2_with first | (go_at_call 122; go_must (refine (hS _).mono ?_); rintro e d ⟨rfl, hb1⟩) | (go_at_call 123; go_must (refine (hM _).mono ?_); rintro e g ⟨rfl, hb2⟩) | (go_at_call 124; go_must (refine (hV _).mono ?_); rintro e i ⟨rfl, hb3⟩)
   go_ret2
   exact ⟨by rw [HP.out]; rfl, btr (btr hb1 hb2) hb3⟩
theorem wholeD_digits (digits : List UInt8) (p : Int) (h : ∀ c ∈ digits, isDig c = true) : ∀ c ∈ wholeD digits p, isDig c = true := by
 intro c hc
 rw [wholeD, List.mem_append] at hc
 rcases hc with hc | hc
 ·
  exact h c (List.mem_of_mem_take hc)
 ·
  rw [List.mem_replicate] at hc; rw [hc.2]; rfl
theorem restD_digits (digits : List UInt8) (p : Int) (h : ∀ c ∈ digits, isDig c = true) : ∀ c ∈ restD digits p, isDig c = true := by
 intro c hc
 rw [restD, List.mem_append] at hc
 rcases hc with hc | hc
 ·
  rw [List.mem_replicate] at hc; rw [hc.2]; rfl
 ·
  exact h c (List.mem_of_mem_drop hc)
end
end Go.Proofs.YthmhfjeojkbpfaaGreatDoor
