/-
  Laws on memory, over any program: a row of cells; []byte(s).
-/
import Derived.WalkKit
import Derived.WalkSpells
import Derived.WalkLawsBesides
namespace Go.Proofs.YtjghbcjnplcleaaGreatDoor
open Go.RowKit

theorem hid {p : Prop} (h : p) : Hid p := h

/-- a row of cells of one block, none of them frozen -/
def BRow (w : World) (b : Nat) (l : List Value) : Prop := ∀ j v, l[j]? = some v → w.cell? ⟨b, j, none⟩ = some v ∧ w.frozen? ⟨b, j, none⟩ = false

theorem BRow.set {w : World} {b : Nat} {l : List Value} (h : BRow w b l) (i : Nat) (v : Value) (hi : i < l.length) : BRow (w.setCell ⟨b, i, none⟩ v) b (l.set i v) := by
  intro j u hj
  rw [World.frozen?_setCell]
  by_cases e : i = j
  · subst e
    rw [List.getElem?_set_self hi] at hj
    obtain rfl : v = u := by simpa using hj
    obtain ⟨h1, h2⟩ := h i l[i] (by simp [hi])
    exact ⟨World.cell?_setCell_same _ _ _ h1, h2⟩
  · rw [List.getElem?_set_ne e] at hj
    obtain ⟨h1, h2⟩ := h j u hj
    rw [World.cell?_setCell_other _ _ _ _ (by intro h; simp at h)]
    exact ⟨h1, h2⟩

theorem BRow.below {w w' : World} {B b : Nat} {l : List Value} (h : BRow w b l) (hb : Below B w w') (hB : b < B) : BRow w' b l := by
  intro j u hj
  obtain ⟨h1, h2⟩ := h j u hj
  rw [hb.cell (p := ⟨b, j, none⟩) hB, hb.frozen (p := ⟨b, j, none⟩) hB]
  exact ⟨h1, h2⟩

/-- the cells of bytes -/
def byteVals (l : List UInt8) : List Value := l.map fun (c : UInt8) => Value.int .u8 (c.toNat : Int)

/-- one after the other -/
theorem btr {w w1 w2 : World} (h : Below w.heap.size w w1) (k : Below w1.heap.size w1 w2) : Below w.heap.size w w2 := h.trans (k.mono h.size)
theorem bdrewN (w : World) (q : Nat) : Below w.heap.size w (w.drewN q) := ⟨rfl, rfl, rfl, Nat.le_refl _, fun _ _ => rfl⟩

section
variable {P : Program}

theorem bytesRow_cell (w : World) (s : ByteArray) (cap : Nat) (e : TypeId) (hc : s.size ≤ cap) : BRow (w.drew.alloc (.cells (bytesRow s cap) e ((bytesRow s cap).size, (bytesRow s cap).size + 1))) w.heap.size (byteVals s.data.toList) := by
  intro j v hj
  have hj' : j < s.data.size := by
    rcases Nat.lt_or_ge j s.data.size with h | h
    · exact h
    · rw [List.getElem?_eq_none (by simpa [byteVals] using h)] at hj; cases hj
  have hsz : (bytesRow s cap).size = cap := by
    unfold bytesRow
    have e1 : s.data.size = s.size := rfl
    simp [e1]; omega
  constructor
  · have h1 := World.cell?_alloc_mark w.drew (bytesRow s cap) e ((bytesRow s cap).size, (bytesRow s cap).size + 1) j
    have h2 := bytesRow_at s cap j hj'
    have e1 : w.drew.heap.size = w.heap.size := rfl
    rw [e1] at h1
    rw [h1, h2, ← hj]
    simp only [byteVals, List.getElem?_map, Array.getElem?_toList]
    rw [Array.getElem?_eq_getElem hj']; rfl
  · have h1 := World.frozen?_alloc_mark w.drew (bytesRow s cap) e (bytesRow s cap).size ((bytesRow s cap).size + 1) j
    have e1 : w.drew.heap.size = w.heap.size := rfl
    rw [e1] at h1
    have e2 : s.data.size = s.size := rfl
    rw [h1, hsz]
    simp; omega

/-- []byte(s): a new row of bytes -/
theorem wpList_conv_bytes {ops : Array Oper} {rest : List Oper} {o : Oper} {a : Act} {Q : Exit → Act → World → Prop} {w : World} (hg : o.guard = none) (x : Operand) (ts tb te : TypeId) (hop : o.op = .convert ts tb x)
    (h1 : P.underlying ts = some .string) (h2 : P.underlying tb = some (.slice te)) (h3 : P.underlying te = some (.int .u8)) (s : ByteArray) (hx : a.eval x = .string s)
    (h : ∀ cap w', s.size ≤ cap → BRow w' w.heap.size (byteVals s.data.toList) → w.grownBy w' none → w'.heap.size = w.heap.size + 1 →
      wpList P ops Q rest (a.put o.dst (.slice (some ⟨w.heap.size, 0, none⟩) s.size cap)) w') : wpList P ops Q (o :: rest) a w := by
  refine wpList_plain hg fun K hK => ?_
  have hr := run_bytes_of_string (P := P) w ts tb te s h1 h2 h3
  unfold Oper.wp
  simp only [execOp, hop, hx, Sem.run_bind, hr, Result.andThen, Sem.run_pure, Oper.upon]
  refine hK _ _ (h _ _ (grownCap_ge w s.size 0 te) ?_ ?_ ?_)
  · exact bytesRow_cell w s _ te (grownCap_ge w s.size 0 te)
  · exact ⟨rfl, rfl, rfl, by simp, fun k hk _ => heap_alloc_old w.drew _ hk⟩
  · simp

theorem below_of_grown {w w' : World} (h : w.grownBy w' none) : Below w.heap.size w w' :=
  (Below.refl _ _).grown h (Nat.le_refl _) (by intro k hk; cases hk)
end

end Go.Proofs.YtjghbcjnplcleaaGreatDoor
