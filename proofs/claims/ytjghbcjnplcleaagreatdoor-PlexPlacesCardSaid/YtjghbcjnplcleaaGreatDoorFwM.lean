/-
  The walk over what is known of a frame: rows whose elements take several cells (structs). Over any program.
-/
import Derived.Test.YtjghbcjnplcleaaGreatDoorFwF
import Derived.Laws.CopyRow
import Derived.Deep.MidRow
namespace Go.Proofs.YtjghbcjnplcleaaGreatDoor
open Go.RowKit Go.WideShapes Go.ChangeShapes

theorem add_lit (b o j : Nat) : (⟨b, o, none⟩ : Addr).add j = ⟨b, o + j, none⟩ := by
  unfold Addr.add; split <;> simp_all
/-- how an element is laid: m cells, each of one value -/
structure Lay (α : Type) where
  m : Nat
  V : α → List Value
  pos : 0 < m
  len : ∀ x, (V x).length = m
  one : ∀ x, ∀ v ∈ V x, v.oneCell' = true
variable {α : Type}
def Lay.flat (L : Lay α) (l : List α) : List Value := l.flatMap L.V
theorem Lay.flat_len (L : Lay α) : ∀ l : List α, (L.flat l).length = l.length * L.m
  | [] => by simp [Lay.flat]
  | x :: l => by
    have := L.flat_len l
    unfold Lay.flat at this ⊢
    simp only [List.flatMap_cons, List.length_append, L.len, this, List.length_cons, Nat.succ_mul]; omega
theorem Lay.flat_append (L : Lay α) (l k : List α) : L.flat (l ++ k) = L.flat l ++ L.flat k := by simp [Lay.flat]
theorem Lay.flat_one (L : Lay α) (l : List α) : ∀ v ∈ L.flat l, v.oneCell' = true := by
  intro v hv
  simp only [Lay.flat, List.mem_flatMap] at hv
  obtain ⟨x, -, h⟩ := hv
  exact L.one x v h
theorem Lay.flat_at (L : Lay α) : ∀ (l : List α) (j : Nat) (h : j < l.length) (i : Nat), i < L.m → (L.flat l)[j * L.m + i]? = (L.V l[j])[i]?
  | x :: l, 0, h, i, hi => by
    simp only [Lay.flat, List.flatMap_cons, Nat.zero_mul, Nat.zero_add, List.getElem_cons_zero]
    rw [List.getElem?_append_left (by rw [L.len]; exact hi)]
  | x :: l, j + 1, h, i, hi => by
    have ih := L.flat_at l j (by simpa using h) i hi
    simp only [Lay.flat, List.flatMap_cons, List.getElem_cons_succ] at ih ⊢
    rw [List.getElem?_append_right (by rw [L.len, Nat.succ_mul]; omega), L.len, ← ih]
    congr 1
    rw [Nat.succ_mul]; omega
theorem Lay.flat_take (L : Lay α) (l : List α) (k : Nat) : (L.flat l).take (k * L.m) = L.flat (l.take k) := by
  induction l generalizing k with
  | nil => simp [Lay.flat]
  | cons x l ih =>
    cases k with
    | zero => simp [Lay.flat]
    | succ k =>
      have := ih k
      simp only [Lay.flat, List.flatMap_cons, List.take_succ_cons] at this ⊢
      rw [List.take_append, L.len, List.take_of_length_le (by rw [L.len, Nat.succ_mul]; omega), ← this]
      congr 2
      rw [Nat.succ_mul]; omega
theorem Lay.flat_drop (L : Lay α) (l : List α) (k : Nat) : (L.flat l).drop (k * L.m) = L.flat (l.drop k) := by
  induction l generalizing k with
  | nil => simp [Lay.flat]
  | cons x l ih =>
    cases k with
    | zero => simp [Lay.flat]
    | succ k =>
      have := ih k
      simp only [Lay.flat, List.flatMap_cons, List.drop_succ_cons] at this ⊢
      rw [List.drop_append, L.len, List.drop_of_length_le (by rw [L.len, Nat.succ_mul]; omega), List.nil_append, ← this]
      congr 1
      rw [Nat.succ_mul]; omega
/-- elements of several cells each in memory -/
structure RowM (L : Lay α) (w : World) (p : Option Addr) (l : List α) : Prop where
  isp : 0 < l.length → p = some (pA p)
  cells : ∀ j (h : j < l.length) i, i < L.m → w.cell? ((pA p).add (j * L.m + i)) = (L.V l[j])[i]?
section
variable {L : Lay α}
theorem RowM.flat {w : World} {p : Option Addr} {l : List α} (h : RowM L w p l) : ∀ k v, (L.flat l)[k]? = some v → w.cell? ((pA p).add k) = some v := by
  intro k v hk
  have hlt : k < (L.flat l).length := by
    rcases Nat.lt_or_ge k (L.flat l).length with h | h
    · exact h
    · rw [List.getElem?_eq_none h] at hk; cases hk
  rw [L.flat_len] at hlt
  have hj : k / L.m < l.length := (Nat.div_lt_iff_lt_mul L.pos).2 hlt
  have hi := Nat.mod_lt k L.pos
  have e : k / L.m * L.m + k % L.m = k := Nat.div_add_mod' k L.m
  have h1 := L.flat_at l (k / L.m) hj (k % L.m) hi
  have h2 := h.cells (k / L.m) hj (k % L.m) hi
  rw [e] at h1 h2
  rw [h2, ← h1, hk]
theorem RowM.of_flat {w : World} {p : Option Addr} {l : List α} (hp : 0 < l.length → p = some (pA p)) (h : ∀ k v, (L.flat l)[k]? = some v → w.cell? ((pA p).add k) = some v) : RowM L w p l :=
  ⟨hp, fun j hj i hi => by
    have h1 := L.flat_at l j hj i hi
    have h2 : i < (L.V l[j]).length := by rw [L.len]; exact hi
    rw [List.getElem?_eq_getElem h2] at h1 ⊢
    exact h _ _ h1⟩
theorem RowM.lt {w : World} {p : Option Addr} {l : List α} (h : RowM L w p l) (h0 : 0 < l.length) : (pA p).block < w.heap.size := by
  have hc := h.cells 0 h0 0 L.pos
  rw [List.getElem?_eq_getElem (by rw [L.len]; exact L.pos)] at hc
  rcases Nat.lt_or_ge (pA p).block w.heap.size with h' | h'
  · exact h'
  · exfalso
    have hb : ((pA p).add (0 * L.m + 0)).block = (pA p).block := add_block _ _
    unfold World.cell? at hc
    rw [hb, Array.getElem?_eq_none h'] at hc
    cases hc
theorem RowM.same {w w1 : World} {p : Option Addr} {l : List α} (h : RowM L w p l) (hb : 0 < l.length → w1.heap[(pA p).block]? = w.heap[(pA p).block]?) : RowM L w1 p l :=
  ⟨h.isp, fun j hj i hi => by rw [World.cell?_of_block (w := w) (by rw [add_block]; exact hb (by omega))]; exact h.cells j hj i hi⟩
theorem RowM.below {w w1 : World} {B : Nat} {p : Option Addr} {l : List α} (h : RowM L w p l) (hb : Below B w w1) (hp : 0 < l.length → (pA p).block < B) : RowM L w1 p l := h.same fun h0 => hb.block _ (hp h0)
theorem RowM.upd {w w1 : World} {b : Nat} {p : Option Addr} {l : List α} (h : RowM L w p l) (hu : Upd b w w1) (hp : 0 < l.length → (pA p).block ≠ b) : RowM L w1 p l := h.same fun h0 => hu.other _ (hp h0)
theorem RowM.drewN {w : World} {p : Option Addr} {l : List α} (h : RowM L w p l) (m : Nat) : RowM L (w.drewN m) p l := ⟨h.isp, h.cells⟩
theorem RowM.drew {w w1 : World} {p : Option Addr} {l : List α} (h : RowM L w p l) (d : Drew w w1) : RowM L w1 p l := by obtain ⟨m, rfl⟩ := d; exact h.drewN m
theorem RowM.nil (w : World) : RowM L w none [] := ⟨fun h => by simp at h, fun j h => by simp at h⟩
/-- a part of it -/
def pPartM (m : Nat) (p : Option Addr) (c a : Nat) : Option Addr := if c = a then p else p.map (·.add (a * m))
theorem RowM.part {w : World} {p : Option Addr} {l : List α} {c a b : Nat} (h : RowM L w p l) (hab : a ≤ b) (hb : b ≤ l.length) (hc : l.length ≤ c) : RowM L w (pPartM L.m p c a) ((l.drop a).take (b - a)) := by
  have hlen : ((l.drop a).take (b - a)).length = b - a := by rw [List.length_take, List.length_drop]; omega
  by_cases h0 : a = b
  · refine ⟨fun h => ?_, fun j hj => ?_⟩ <;> rw [hlen] at * <;> omega
  · have hp := h.isp (by omega)
    have e1 : pPartM L.m p c a = some ((pA p).add (a * L.m)) := by unfold pPartM; rw [if_neg (by omega)]; rw [hp]; rfl
    rw [e1]
    refine ⟨fun _ => rfl, fun j hj i hi => ?_⟩
    rw [hlen] at hj
    show w.cell? (((pA p).add (a * L.m)).add (j * L.m + i)) = _
    rw [add_add, show a * L.m + (j * L.m + i) = (a + j) * L.m + i by rw [Nat.add_mul]; omega, h.cells (a + j) (by omega) i hi]
    simp
/-- such a row of the call's own: from block B on; the row may go on behind the slice's room -/
def OwnM (L : Lay α) (e : TypeId) (B : Nat) (w : World) (v : Value) (l : List α) : Prop :=
  (v = .slice none 0 0 ∧ l = []) ∨ ∃ g cap cur, v = .slice (some ⟨g, 0, none⟩) l.length cap ∧ B ≤ g ∧ w.heap[g]? = some (.cells cur e (0, 0)) ∧ l.length ≤ cap ∧ cap ≤ maxLen ∧ cap * L.m ≤ cur.size ∧ cur.toList.take (l.length * L.m) = L.flat l
theorem OwnM.nil (L : Lay α) (e : TypeId) (B : Nat) (w : World) : OwnM L e B w (.slice none 0 0) [] := .inl ⟨rfl, rfl⟩
theorem OwnM.of {e : TypeId} {B : Nat} {w : World} {v : Value} {l : List α} (h : w.ownsRow B e L.m v l.length (L.flat l)) : OwnM L e B w v l := by
  obtain ⟨hl, h⟩ := h
  rcases h with ⟨rfl, h0⟩ | ⟨g, cap, cur, h1, h2, h3, h4, h5, h6, h7⟩
  · exact .inl ⟨rfl, List.length_eq_zero_iff.1 h0⟩
  · exact .inr ⟨g, cap, cur, h1, h2, h3, h4, h5, by omega, h7⟩
theorem OwnM.row {e : TypeId} {B : Nat} {w : World} {v : Value} {l : List α} (h : OwnM L e B w v l) : ∃ p c, v = .slice p l.length c ∧ RowM L w p l ∧ (∀ a, p = some a → B ≤ a.block) ∧ l.length ≤ c ∧ (l = [] → c = 0 ∨ p ≠ none) ∧ v.ownBlock = p.map (·.block) ∧ c ≤ maxLen ∧ (p = none ∨ ∃ g, p = some ⟨g, 0, none⟩) := by
  rcases h with ⟨rfl, rfl⟩ | ⟨g, cap, cur, rfl, hB, hg, hnc, hcm, hcs, htake⟩
  · exact ⟨none, 0, rfl, RowM.nil w, fun a h => (by cases h), Nat.le_refl _, fun _ => .inl rfl, rfl, (by unfold maxLen; omega), .inl rfl⟩
  · refine ⟨_, cap, rfl, RowM.of_flat (fun _ => rfl) fun k v hk => ?_, fun a h => (by cases h; exact hB), hnc, fun _ => .inr (by simp), rfl, hcm, .inr ⟨g, rfl⟩⟩
    show w.cell? ((⟨g, 0, none⟩ : Addr).add k) = _
    rw [add_lit, Nat.zero_add, Lib.cell_of_heap hg k, ← Array.getElem?_toList]
    have h2 : (cur.toList.take (l.length * L.m))[k]? = (L.flat l)[k]? := by rw [htake]
    have hk2 : k < (L.flat l).length := by
      rcases Nat.lt_or_ge k (L.flat l).length with h | h
      · exact h
      · rw [List.getElem?_eq_none h] at hk; cases hk
    rw [L.flat_len] at hk2
    rw [List.getElem?_take, if_pos hk2] at h2
    rw [h2, hk]
theorem OwnM.same {e : TypeId} {B : Nat} {w w1 : World} {v : Value} {l : List α} (h : OwnM L e B w v l) (hb : ∀ g, v.ownBlock = some g → w1.heap[g]? = w.heap[g]?) : OwnM L e B w1 v l := by
  refine h.imp id fun ⟨g, cap, cur, h1, h2, h3, h4⟩ => ⟨g, cap, cur, h1, h2, ?_, h4⟩
  rw [hb g (by rw [h1]; rfl)]; exact h3
theorem OwnM.lt {e : TypeId} {B : Nat} {w : World} {v : Value} {l : List α} (h : OwnM L e B w v l) : ∀ g, v.ownBlock = some g → B ≤ g ∧ g < w.heap.size := by
  intro g hg
  rcases h with ⟨rfl, rfl⟩ | ⟨g', cap, cur, rfl, hB, h3, h4⟩
  · cases hg
  · cases hg
    exact ⟨hB, (Array.getElem?_eq_some_iff.1 h3).1⟩
theorem OwnM.base {e : TypeId} {B C : Nat} {w : World} {v : Value} {l : List α} (h : OwnM L e B w v l) (hC : ∀ g, v.ownBlock = some g → C ≤ g) : OwnM L e C w v l :=
  h.imp id fun ⟨g, cap, cur, h1, h2, h3⟩ => ⟨g, cap, cur, h1, hC g (by rw [h1]; rfl), h3⟩
theorem OwnM.drew {e : TypeId} {B : Nat} {w w1 : World} {v : Value} {l : List α} (h : OwnM L e B w v l) (d : Drew w w1) : OwnM L e B w1 v l := by obtain ⟨m, rfl⟩ := d; exact h
theorem OwnM.below {e : TypeId} {B : Nat} {w w1 : World} {v : Value} {l : List α} (h : OwnM L e B w v l) (hb : Below w.heap.size w w1) : OwnM L e B w1 v l := h.same fun g hg => hb.block g (h.lt g hg).2
theorem OwnM.new {e : TypeId} {B b : Nat} {w w1 : World} {v : Value} {l : List α} (h : OwnM L e B w v l) (eb : b = w.heap.size) (hu : Upd b w w1) : OwnM L e B w1 v l := h.same fun g hg => hu.other g (by have := (h.lt g hg).2; omega)
theorem OwnM.upd {e : TypeId} {B r : Nat} {w w1 : World} {v : Value} {l : List α} (h : OwnM L e B w v l) (hu : Upd r w w1) (hr : ∀ g, v.ownBlock = some g → g ≠ r) : OwnM L e B w1 v l := h.same fun g hg => hu.other g (hr g hg)
theorem OwnM.touch {e : TypeId} {B r : Nat} {w w1 : World} {v : Value} {l : List α} (h : OwnM L e B w v l) (hu : Upd r w w1) (hr : r < B) : OwnM L e B w1 v l := h.same fun g hg => hu.other g (by have := (h.lt g hg).1; omega)
theorem OwnM.one {e : TypeId} {B : Nat} {w : World} {v : Value} {l : List α} (h : OwnM L e B w v l) : v.oneCell' = true := by
  rcases h with ⟨rfl, -⟩ | ⟨g, cap, cur, rfl, -⟩ <;> rfl
/-- the first k alone -/
theorem OwnM.cut {e : TypeId} {B : Nat} {w : World} {p : Option Addr} {n c : Nat} {l : List α} (h : OwnM L e B w (.slice p n c) l) (k : Nat) (hk : k ≤ l.length) : OwnM L e B w (.slice p k k) (l.take k) := by
  rcases h with ⟨h1, rfl⟩ | ⟨g, cap, cur, h1, hB, hg, hnc, hcm, hcs, htake⟩
  · cases h1
    obtain rfl : k = 0 := by simpa using hk
    exact .inl ⟨rfl, by simp⟩
  · cases h1
    have hlen : (l.take k).length = k := by rw [List.length_take]; omega
    refine .inr ⟨g, k, cur, by rw [hlen], hB, hg, by rw [hlen]; exact Nat.le_refl _, by omega, Nat.le_trans (Nat.mul_le_mul_right _ (by omega)) hcs, ?_⟩
    rw [hlen, ← L.flat_take, ← htake, List.take_take, Nat.min_eq_left (Nat.mul_le_mul_right _ hk)]
end
/-- a stretch of what may have turned: only these blocks of the old ones -/
structure Keep (S : List Nat) (w w1 : World) : Prop where
  os : w1.os = w.os
  tape : w1.tape = w.tape
  output : w1.output = w.output
  size : w.heap.size ≤ w1.heap.size
  block : ∀ k, k < w.heap.size → k ∉ S → w1.heap[k]? = w.heap[k]?
theorem Keep.refl (S : List Nat) (w : World) : Keep S w w := ⟨rfl, rfl, rfl, Nat.le_refl _, fun _ _ _ => rfl⟩
theorem Keep.below {S : List Nat} {w w1 : World} (h : Keep S w w1) {B : Nat} (hB : B ≤ w.heap.size) (hS : ∀ k ∈ S, B ≤ k) : Below B w w1 :=
  ⟨h.os, h.tape, h.output, h.size, fun k hk => h.block k (by omega) fun hm => by have := hS k hm; omega⟩
/-- .. from an older world on -/
structure KeepB (B : Nat) (S : List Nat) (w w1 : World) : Prop where
  os : w1.os = w.os
  tape : w1.tape = w.tape
  output : w1.output = w.output
  size : w.heap.size ≤ w1.heap.size
  block : ∀ k, k < B → k ∉ S → w1.heap[k]? = w.heap[k]?
theorem KeepB.trans {B : Nat} {S : List Nat} {a b c : World} (h : KeepB B S a b) (k : KeepB B S b c) : KeepB B S a c :=
  ⟨k.os.trans h.os, k.tape.trans h.tape, k.output.trans h.output, Nat.le_trans h.size k.size, fun i hi hr => (k.block i hi hr).trans (h.block i hi hr)⟩
theorem KeepB.mono {B B' : Nat} {S : List Nat} {a b : World} (h : KeepB B' S a b) (hB : B ≤ B') : KeepB B S a b := ⟨h.os, h.tape, h.output, h.size, fun i hi hS => h.block i (by omega) hS⟩
theorem Blk.keepB {B c : Nat} {S : List Nat} {w w1 : World} {cs : Array Value} {t : TypeId} (h : Blk w c cs t) (hT : KeepB B S w w1) (hc : c < B) (hS : c ∉ S) : Blk w1 c cs t := (hT.block c hc hS).trans h
theorem RowM.keepB {L : Lay α} {B : Nat} {S : List Nat} {w w1 : World} {p : Option Addr} {l : List α} (h : RowM L w p l) (hT : KeepB B S w w1) (hp : 0 < l.length → (pA p).block < B ∧ (pA p).block ∉ S) : RowM L w1 p l := h.same fun h0 => hT.block _ (hp h0).1 (hp h0).2
theorem OwnM.keepB {L : Lay α} {e : TypeId} {B C : Nat} {S : List Nat} {w w1 : World} {v : Value} {l : List α} (h : OwnM L e C w v l) (hT : KeepB B S w w1) (hp : ∀ g, v.ownBlock = some g → g < B ∧ g ∉ S) : OwnM L e C w1 v l := h.same fun g hg => hT.block g (hp g hg).1 (hp g hg).2
theorem KeepB.of_below {B B' : Nat} {S : List Nat} {a b : World} (h : Below B' a b) (hB : B ≤ B') : KeepB B S a b := ⟨h.os, h.tape, h.output, h.size, fun i hi _ => h.block i (by omega)⟩
theorem KeepB.of_drew {B : Nat} {S : List Nat} {a b : World} (h : Drew a b) : KeepB B S a b := KeepB.of_below (h.below (Below.refl B _)) (Nat.le_refl _)
theorem KeepB.of_new {B c : Nat} {S : List Nat} {a b : World} (h : Upd c a b) (hc : B ≤ c) : KeepB B S a b := ⟨h.os, h.tape, h.output, h.size, fun i hi _ => h.other i (by omega)⟩
theorem KeepB.of_mem {B c : Nat} {S : List Nat} {a b : World} (h : Upd c a b) (hc : c ∈ S) : KeepB B S a b := ⟨h.os, h.tape, h.output, h.size, fun i _ hS => h.other i (fun e => hS (e ▸ hc))⟩
theorem KeepB.of_grown {B : Nat} {S : List Nat} {a b : World} {row : Option Nat} (h : a.grownBy b row) (hr : ∀ g, row = some g → g ∈ S ∨ B ≤ g) (hB : B ≤ a.heap.size) : KeepB B S a b :=
  ⟨h.os, h.tape, h.output, h.size, fun i hi hS => h.block i (by omega) fun e => by rcases hr i e.symm with h | h <;> first | exact hS h | omega⟩
theorem KeepB.below {B C : Nat} {S : List Nat} {w w1 : World} (h : KeepB B S w w1) (hB : C ≤ B) (hS : ∀ k ∈ S, C ≤ k) : Below C w w1 :=
  ⟨h.os, h.tape, h.output, h.size, fun k hk => h.block k (by omega) fun hm => by have := hS k hm; omega⟩
theorem KeepB.refl (B : Nat) (S : List Nat) (w : World) : KeepB B S w w := ⟨rfl, rfl, rfl, Nat.le_refl _, fun _ _ _ => rfl⟩
section
variable {P : Program} {n : Sh} {f : Fr} {L : Lay α}
/-- elements put behind a row of the call's own -/
theorem WL.appMb {ops : Array Oper} {Q : Exit → Fr → World → Prop} {w : World} {rest : List Oper} {d ty : Nat} {pos : String} {aft : Array Edge} {s x : Operand} {t e : TypeId} {B : Nat} {z v : Value} {xs l : List α} {p : Option Addr} {c by' : Nat}
    (ht : P.underlying t = some (.slice e)) (hi : (P.info? e).map (fun i => (i.zero, i.size, i.bytes)) = some (some z, L.m, by')) (hby2 : Nat.ble by' 1000 = true) (hzs : z.cells.size = L.m)
    (hs : evo f s = some v) (hown : OwnM L e B w v xs) (hx : evo f x = some (.slice p l.length c)) (hb : RowM L w p l)
    (hn : xs.length + l.length ≤ 4611686018427387904) (hbt : (xs.length + l.length) * by' ≤ 140737488355328) (hB : B ≤ w.heap.size) (hd : Nat.blt d n.n = true) (hc : l = [] → c = 0 ∨ p ≠ none)
    (k : ∀ v' w', OwnM L e B w' v' (xs ++ l) → Below B w w' → w.grownBy w' v.ownBlock → (∀ g, v'.ownBlock = some g → v.ownBlock = some g ∨ w.heap.size ≤ g) → WL P n ops Q rest ((d, v') :: f) w') :
    WL P n ops Q (⟨some d, .call ⟨.builtin .append, #[s, x], #[t, t]⟩, ty, pos, aft, none⟩ :: rest) f w := by
  cases hh : P.info? e with
  | none => rw [hh] at hi; cases hi
  | some i =>
    rw [hh] at hi
    simp only [Option.map_some, Option.some.injEq, Prod.mk.injEq] at hi
    obtain ⟨hz, hsize, hby⟩ := hi
    have hby2' : by' ≤ 1000 := by simpa using hby2
    have hlx := L.flat_len xs
    have hll := L.flat_len l
    have e1 : (xs ++ l).length = xs.length + l.length := by simp
    -- what the call's own grown row is
    have fin : ∀ (w' : World) (g cap : Nat) (cur : Array Value), B ≤ g → w'.heap[g]? = some (.cells cur e (0, 0)) → xs.length + l.length ≤ cap → cap ≤ maxLen → cap * L.m ≤ cur.size → cur.toList.take ((xs.length + l.length) * L.m) = L.flat xs ++ L.flat l →
        OwnM L e B w' (.slice (some ⟨g, 0, none⟩) (xs.length + l.length) cap) (xs ++ l) := fun w' g cap cur h1 h2 h3 h4 h5 h6 =>
      .inr ⟨g, cap, cur, by rw [e1], h1, h2, by rw [e1]; exact h3, h4, h5, by rw [e1, h6, L.flat_append]⟩
    have run : ∀ (v' : Value) (w' : World), (Builtin.append_ #[t, t] ty #[v, .slice p l.length c]).run P w = .ok v' w' → OwnM L e B w' v' (xs ++ l) → w.grownBy w' v.ownBlock → (∀ g, v'.ownBlock = some g → v.ownBlock = some g ∨ w.heap.size ≤ g) →
        WL P n ops Q (⟨some d, .call ⟨.builtin .append, #[s, x], #[t, t]⟩, ty, pos, aft, none⟩ :: rest) f w := fun v' w' h2 h3 h4 h5 => by
      refine WL.run hd (w' := w') (v := v') (fun ρ hρ => ?_) (k v' w' h3 ((Below.refl _ _).grown h4 hB fun k hk => (hown.lt k hk).1) h4 h5)
      unfold execOp
      simp only [resolve, invoke, builtin, Sem.run_bind, Sem.run_pure, Result.andThen_ok, List.map_toArray, List.map_cons, List.map_nil, hρ _ _ hs, hρ _ _ hx, h2]
    cases hp : p with
    | none =>
      have hl : l = [] := by
        cases l with
        | nil => rfl
        | cons a r => have := hb.isp (by simp); rw [hp] at this; cases this
      have hc0 : c = 0 := (hc hl).resolve_right (fun h => h hp)
      subst hp; subst hl; subst hc0
      refine run v w ?_ (by rw [List.append_nil]; exact hown) ⟨rfl, rfl, rfl, Nat.le_refl _, fun _ _ _ => rfl⟩ fun g hg => .inl hg
      rcases hown with ⟨rfl, rfl⟩ | ⟨g, cap, cur, rfl, -, -, hnc, -⟩
      · simp [Builtin.append_, run_underlying ht, sizeOf, typeInfo, hh, Builtin.lenOf, Builtin.firstCells]
      · simp [Builtin.append_, run_underlying ht, sizeOf, typeInfo, hh, Builtin.lenOf, Builtin.firstCells, hnc, storeCells]
    | some a =>
      subst hp
      have hbytes : (xs.length + l.length) * i.bytes ≤ 140737488355328 := by rw [hby]; exact hbt
      rcases hown with ⟨rfl, rfl⟩ | ⟨g, cap, cur, rfl, hBg, hg, hnc, hcm, hcs, htk⟩
      · obtain ⟨v', w', h2, h3, h4, -⟩ := run_append_own (P := P) (w := w) w.heap.size t ty e i z L.m by' ht hh hz hsize hby hzs L.pos (.slice none 0 0) 0 [] (World.ownsRow_nil w w.heap.size e L.m) a l.length c (L.flat l) hll
          (fun j y hj => hb.flat j y hj) (L.flat_one l) (by unfold maxLen; omega) (by simp only [List.length_nil] at hbytes; rw [hby] at hbytes; exact hbytes) (Nat.le_refl _)
        have h3' : OwnM L e w.heap.size w' v' ([] ++ l) := OwnM.of (by rw [List.nil_append]; simpa using h3)
        exact run v' w' h2 (h3'.base fun g hg => Nat.le_trans hB (h3'.lt g hg).1) h4 fun g hg => .inr (h3'.lt g hg).1
      · by_cases hroom : xs.length + l.length ≤ cap
        · have hfit : xs.length * i.size + (L.flat l).length ≤ cur.size := by
            rw [hsize, hll, ← Nat.add_mul]; exact Nat.le_trans (Nat.mul_le_mul_right _ hroom) hcs
          have h2 := run_append_room (P := P) w t ty e i ht hh g xs.length cap cur hg a l.length c (L.flat l) (by rw [hsize]; exact hll) (fun j y hj => hb.flat j y hj) (L.flat_one l) hroom hfit
          refine run _ _ h2 (fin _ g cap _ hBg (setRow_heap w g cur _ e _ hg) hroom hcm ?_ ?_) ⟨rfl, rfl, rfl, by simp, fun k _ hk => setRow_other w g k _ (fun e => hk (by simp [Value.ownBlock, e]))⟩ fun g hg => .inl hg
          · simp only [List.size_toArray, List.length_append, List.length_take, List.length_drop, Array.length_toList]
            omega
          · show (cur.toList.take (xs.length * i.size) ++ L.flat l ++ _).take _ = _
            rw [hsize, htk, List.take_append_of_le_length (by rw [List.length_append, hlx, hll, Nat.add_mul]; omega), List.take_of_length_le (by rw [List.length_append, hlx, hll, Nat.add_mul]; omega)]
        · have holds : ∀ j u, (L.flat xs)[j]? = some u → w.cell? ((⟨g, 0, none⟩ : Addr).add j) = some u := fun j u hj => by
            have hj2 : j < (L.flat xs).length := by
              rcases Nat.lt_or_ge j (L.flat xs).length with h | h
              · exact h
              · rw [List.getElem?_eq_none h] at hj; cases hj
            rw [add_lit, Nat.zero_add, Lib.cell_of_heap hg j, ← Array.getElem?_toList]
            have h2 : (cur.toList.take (xs.length * L.m))[j]? = (L.flat xs)[j]? := by rw [htk]
            rw [List.getElem?_take, if_pos (by rw [← hlx]; exact hj2)] at h2
            rw [h2, hj]
          have hr2 := run_append_grow (P := P) w t ty e i z ht hh hz ⟨g, 0, none⟩ xs.length cap (L.flat xs) (by rw [hsize]; exact hlx) holds a l.length c (L.flat l) (by rw [hsize]; exact hll) (fun j y hj => hb.flat j y hj) (by omega) (by omega) (growslice_fits (by omega) hbytes)
          have hge := grownCap_ge w (xs.length + l.length) cap e
          have hcm2 : grownCap w (xs.length + l.length) cap e ≤ maxLen := grownCap_le_maxLen w (xs.length + l.length) cap e (by unfold maxLen; omega)
          refine run _ _ hr2 (fin _ w.heap.size _ _ hB (heap_alloc_new w.drew _) hge hcm2 ?_ ?_) ⟨rfl, rfl, rfl, by simp, fun k hk _ => (Upd.alloc w.drew _).other k (by show k ≠ w.heap.size; omega)⟩ fun g hg => .inr (by simp only [Value.ownBlock, Option.some.injEq] at hg; omega)
          · simp only [Array.size_append, List.size_toArray, size_zeroCells, hzs, hlx, hll, ← Nat.add_mul]
            exact Nat.le_of_eq (congrArg (· * L.m) (by omega))
          · simp only [Array.toList_append, List.append_assoc]
            rw [← List.append_assoc, List.take_append_of_le_length (by rw [List.length_append, hlx, hll, Nat.add_mul]; omega), List.take_of_length_le (by rw [List.length_append, hlx, hll, Nat.add_mul]; omega)]
theorem WL.appM {ops : Array Oper} {Q : Exit → Fr → World → Prop} {w : World} {rest : List Oper} {d ty : Nat} {pos : String} {aft : Array Edge} {s x : Operand} {t e : TypeId} {B : Nat} {z v : Value} {xs l : List α} {p : Option Addr} {c by' : Nat}
    (ht : P.underlying t = some (.slice e)) (hi : (P.info? e).map (fun i => (i.zero, i.size, i.bytes)) = some (some z, L.m, by')) (hby2 : Nat.ble by' 1000 = true) (hzs : z.cells.size = L.m)
    (hs : evo f s = some v) (hown : OwnM L e B w v xs) (hx : evo f x = some (.slice p l.length c)) (hb : RowM L w p l)
    (hn : xs.length + l.length ≤ 10000000) (hB : B ≤ w.heap.size) (hd : Nat.blt d n.n = true) (hc : l = [] → c = 0 ∨ p ≠ none)
    (k : ∀ v' w', OwnM L e B w' v' (xs ++ l) → Below B w w' → w.grownBy w' v.ownBlock → (∀ g, v'.ownBlock = some g → v.ownBlock = some g ∨ w.heap.size ≤ g) → WL P n ops Q rest ((d, v') :: f) w') :
    WL P n ops Q (⟨some d, .call ⟨.builtin .append, #[s, x], #[t, t]⟩, ty, pos, aft, none⟩ :: rest) f w := by
  refine WL.appMb ht hi hby2 hzs hs hown hx hb (by omega) ?_ hB hd hc k
  have h1 : by' ≤ 1000 := by simpa using hby2
  have : (xs.length + l.length) * by' ≤ (xs.length + l.length) * 1000 := Nat.mul_le_mul_left _ h1
  omega
/-- a struct of such a row is read -/
theorem Rd.ldS {t : TypeId} {x : Operand} {p : Option Addr} {l : List α} {w : World} {dd : TypeDesc} (hu : P.underlying t = some dd) (hdd : dd.isRow = true) (hi : (P.info? t).map (·.size) = some L.m) (hb : RowM L w p l) (k : Nat) (hk : k < l.length)
    (hx : evo f x = some (.pointer (some ((pA p).add (k * L.m))))) : Rd P (.load t x) f w (.agg (L.V l[k]).toArray) := fun ρ hρ d ty pos aft g => by
  have hl : (loadCells ((pA p).add (k * L.m)) (L.V l[k]).length).run P w = .ok (L.V l[k]).toArray w :=
    run_loadCells_list (P := P) w ((pA p).add (k * L.m)) (L.V l[k]) (fun j v hv => by
      have hj : j < L.m := by
        rcases Nat.lt_or_ge j L.m with h | h
        · exact h
        · rw [List.getElem?_eq_none (by rw [L.len]; exact h)] at hv; cases hv
      rw [add_add, hb.cells k hk j hj, hv])
  cases hq : P.info? t with
  | none => simp [hq] at hi
  | some i =>
    have hs : i.size = (L.V l[k]).length := by rw [L.len]; simpa [hq] using hi
    have hagg : (isAgg t).run P w = .ok true w := by
      unfold isAgg
      rw [Sem.run_bind, run_underlying hu w]
      cases dd <;> simp_all
    unfold execOp
    simp [hρ _ _ hx, Instr.loadAt, Instr.sureAddr, loadVar, Sem.run_bind, hagg, sizeOf, typeInfo, hq, hs, hl]
/-- a struct of such a row is written -/
theorem list_set_flat (L : Lay α) (l : List α) (k : Nat) (hk : k < l.length) (x : α) : (L.flat l).take (k * L.m) ++ L.V x ++ (L.flat l).drop (k * L.m + L.m) = L.flat (l.set k x) := by
  rw [L.flat_take, show k * L.m + L.m = (k + 1) * L.m by rw [Nat.succ_mul], L.flat_drop, List.set_eq_take_append_cons_drop, if_pos hk]
  simp [Lay.flat]
end

end Go.Proofs.YtjghbcjnplcleaaGreatDoor
