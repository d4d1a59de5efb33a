/-
  Arguments that lie in memory, opened: slices of structs, of numbers, of strings, within one another. Over any program.
-/
import Derived.Test.YtnjalolknhepdaaFwN
import Derived.Deep.Slices
import Derived.ProofKit
import Derived.OpenShut
namespace Go.Proofs.Ytnjalolknhepdaa
open Go.ChangeShapes Go.WideShapes Go.ChangeAt Go.RowKit

/-- what is known of a slice's length and room -/
structure SlOk {α : Type} (p : Option Addr) (l : List α) (c : Nat) : Prop where
  le : l.length ≤ c
  cap : c ≤ maxLen
  nil : l = [] → c = 0 ∨ p ≠ none
  none : p = none → l = [] ∧ c = 0
theorem SlOk.z {α : Type} : SlOk (α := α) Option.none [] 0 := ⟨Nat.le_refl _, by unfold maxLen; omega, fun _ => .inl rfl, fun _ => ⟨rfl, rfl⟩⟩
theorem list_choose {α : Type} (P : Nat → α → Prop) : ∀ n, (∀ i, i < n → ∃ o, P i o) → ∃ l : List α, l.length = n ∧ ∀ i (h : i < l.length), P i l[i]
  | 0, _ => ⟨[], rfl, fun i h => by simp at h⟩
  | n + 1, h => by
    obtain ⟨l, hl, hp⟩ := list_choose P n (fun i hi => h i (by omega))
    obtain ⟨o, ho⟩ := h n (by omega)
    refine ⟨l ++ [o], by simp [hl], fun i hi => ?_⟩
    rw [List.length_append, List.length_singleton] at hi
    rcases Nat.lt_or_ge i l.length with h1 | h1
    · rw [List.getElem_append_left h1]; exact hp i h1
    · obtain rfl : i = l.length := by omega
      rw [List.getElem_append_right (Nat.le_refl _)]
      simp only [Nat.sub_self, List.getElem_cons_zero]
      rw [hl]; exact ho
def DLen {H : Type} (d : DataW H) (n : Nat) : Prop := n = 0 ∨ ∃ elems spare, d = .slice elems spare ∧ n = elems.length
abbrev intV (k : Int) : Value := .int .i64 k
section
variable {H : Type} {enc : TypeId × Value → H} {P : Program} {w : World} {base : Nat} {sp : Nat → Bool} {held : Bool} {fuel : Nat} {t e : TypeId} {cs : List Value} {x : DataW H × List MemPlace} {α : Type}
theorem open_rowM {L : Lay α} {Ok : α → Prop} (hu : P.underlying t = some (.slice e)) (hc : P.cellsOf e = L.m) (hel : ∀ {n cs x}, DataW.trod enc P w base sp held n e cs = some x → ∃ o, cs = L.V o ∧ Ok o)
    (h : DataW.trod enc P w base sp held fuel t cs = some x) : ∃ p l c, cs = [.slice p (l : List α).length c] ∧ RowM L w p l ∧ SlOk p l c ∧ (∀ y ∈ l, Ok y) ∧ DLen x.1 l.length := by
  rcases Go.Deep.open_slice hu h with ⟨rfl, rfl⟩ | ⟨a, len, cap, k, n, D, Pl, rfl, -, hl, hm, hk, rfl, hx⟩
  · exact ⟨none, [], 0, rfl, RowM.nil w, .z, fun y hy => by simp at hy, .inl rfl⟩
  · have hlk : len ≤ k := by rw [hk]; split <;> omega
    obtain ⟨l, hll, hp⟩ := list_choose (fun i o => (∀ q, q < L.m → w.cell? (a.add (i * L.m + q)) = (L.V o)[q]?) ∧ Ok o) len (fun i hi => by
      obtain ⟨cs, h1, h2⟩ := hx i (by omega)
      obtain ⟨o, rfl, ho⟩ := hel h2
      rw [hc] at h1
      obtain ⟨-, -, h3⟩ := World.cells?_some h1
      exact ⟨o, fun q hq => by rw [← add_add]; exact h3 q hq, ho⟩)
    refine ⟨some a, l, cap, by rw [hll], ⟨fun _ => rfl, fun j hj q hq => (hp j hj).1 q hq⟩, ⟨by omega, hm, fun _ => .inr (by simp), fun h => by cases h⟩, fun y hy => ?_, .inr ⟨_, _, rfl, by simp [hll]⟩⟩
    obtain ⟨i, hi, rfl⟩ := List.getElem_of_mem hy
    exact (hp i hi).2
theorem open_rowAt {V : α → Value} {Ok : α → Prop} (hu : P.underlying t = some (.slice e)) (hc : P.cellsOf e = 1) (hel : ∀ {n v x}, DataW.trod enc P w base sp held n e [v] = some x → ∃ o, v = V o ∧ Ok o)
    (h : DataW.trod enc P w base sp held fuel t cs = some x) : ∃ p l c, cs = [.slice p (l : List α).length c] ∧ RowAt V w p l ∧ SlOk p l c ∧ (∀ y ∈ l, Ok y) ∧ DLen x.1 l.length := by
  rcases Go.Deep.open_slice1 hu hc h with ⟨rfl, rfl⟩ | ⟨a, len, cap, k, n, F, D, Pl, rfl, -, hl, hm, hk, rfl, hx⟩
  · exact ⟨none, [], 0, rfl, RowAt.nil w, .z, fun y hy => by simp at hy, .inl rfl⟩
  · have hlk : len ≤ k := by rw [hk]; split <;> omega
    obtain ⟨l, hll, hp⟩ := list_choose (fun i o => w.cell? (a.add i) = some (V o) ∧ Ok o) len (fun i hi => by
      obtain ⟨h1, h2⟩ := hx i (by omega)
      obtain ⟨o, ho, hk⟩ := hel h2
      exact ⟨o, by rw [h1, ho], hk⟩)
    refine ⟨some a, l, cap, by rw [hll], ⟨fun _ => rfl, fun j hj => (hp j hj).1⟩, ⟨by omega, hm, fun _ => .inr (by simp), fun h => by cases h⟩, fun y hy => ?_, .inr ⟨_, _, rfl, by simp [hll]⟩⟩
    obtain ⟨i, hi, rfl⟩ := List.getElem_of_mem hy
    exact (hp i hi).2
theorem open_ints (hu : P.underlying t = some (.slice e)) (he : P.underlying e = some (.int .i64)) (hc : P.cellsOf e = 1)
    (h : DataW.trod enc P w base sp held fuel t cs = some x) : ∃ p l c, cs = [.slice p (l : List Int).length c] ∧ RowAt intV w p l ∧ SlOk p l c ∧ (∀ y ∈ l, (Lit.int .i64 y).wf = true) ∧ DLen x.1 l.length :=
  open_rowAt hu hc (fun {n v x} h => by
    obtain ⟨a, e, -, w⟩ := DataW.trod_int he h
    simp only [List.cons.injEq, and_true] at e
    exact ⟨a, e, w⟩) h
theorem open_strs (hu : P.underlying t = some (.slice e)) (he : P.underlying e = some .string) (hc : P.cellsOf e = 1)
    (h : DataW.trod enc P w base sp held fuel t cs = some x) : ∃ p l c, cs = [.slice p (l : List (List UInt8)).length c] ∧ RowAt strV w p l ∧ SlOk p l c ∧ (∀ y ∈ l, y.length ≤ maxLen) ∧ DLen x.1 l.length :=
  open_rowAt hu hc (fun {n v x} h => by
    obtain ⟨a, e, -, w⟩ := DataW.trod_string he h
    simp only [List.cons.injEq, and_true] at e
    exact ⟨a.data.toList, e, by rw [Array.length_toList]; exact w⟩) h
theorem open_u8s (hu : P.underlying t = some (.slice e)) (he : P.underlying e = some (.int .u8)) (hc : P.cellsOf e = 1)
    (h : DataW.trod enc P w base sp held fuel t cs = some x) : ∃ p l c, cs = [.slice p (l : List UInt8).length c] ∧ BytesAt w p l ∧ SlOk p l c ∧ (∀ y ∈ l, True) ∧ DLen x.1 l.length := by
  obtain ⟨p, l, c, h1, h2, h3, h4, h5⟩ := open_rowAt (V := fun c : UInt8 => .int .u8 (c.toNat : Int)) (Ok := fun _ => True) hu hc (fun {n v x} h => by
    obtain ⟨a, e, -, w⟩ := DataW.trod_int he h
    simp only [List.cons.injEq, and_true] at e
    have hb : 0 ≤ a ∧ a ≤ 255 := by simp only [Lit.wf, Bool.and_eq_true, decide_eq_true_eq] at w; exact w
    refine ⟨a.toNat.toUInt8, ?_, trivial⟩
    rw [e]
    have : (a.toNat.toUInt8).toNat = a.toNat % 256 := by simp
    rw [this]; congr 1; omega) h
  exact ⟨p, l, c, h1, ⟨h2.isp, h2.cells⟩, h3, h4, h5⟩
end
theorem wf64 {n : Int} (h : (Lit.int .i64 n).wf = true) : -9223372036854775808 ≤ n ∧ n ≤ 9223372036854775807 := by
  simp only [Lit.wf, Bool.and_eq_true, decide_eq_true_eq] at h; exact h

end Go.Proofs.Ytnjalolknhepdaa
