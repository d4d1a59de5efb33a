/-
  Stacks: slices of objects, as they come in.
-/
import Derived.Test.YtnjalolknhepdaaStkE
import Derived.Deep.Slices
import Derived.ProofKit
import Derived.OpenShut
namespace Go.Proofs.Ytnjalolknhepdaa
open Go.ChangeShapes Go.WideShapes Go.ChangeAt Go.RowKit

theorem cellsInt : Try.prog.cellsOf 3 = 1 := by kernel_rfl
theorem cellsBool : Try.prog.cellsOf 4 = 1 := by kernel_rfl
theorem cellsStr : Try.prog.cellsOf 9 = 1 := by kernel_rfl
theorem cellsObj : Try.prog.cellsOf 39 = 8 := by kernel_rfl
theorem open_obj {H : Type} {enc : TypeId × Value → H} {w : World} {base : Nat} {sp : Nat → Bool} {held : Bool} {fuel : Nat} {cs : List Value} {x : DataW H × List MemPlace}
    (h : DataW.trod enc Try.prog w base sp held fuel 39 cs = some x) : ∃ o : ObjV, cs = objV o := by
  obtain ⟨xs, n, rfl, -, hl, hlen, hf⟩ := DataW.trod_struct Try.underlying39 h
  rw [cellsObj] at hl
  have hlen8 : xs.length = 8 := hlen
  match cs, hl with
  | [c0, c1, c2, c3, c4, c5, c6, c7], _ =>
    have g : ∀ (i : Nat) (f : Field) (c : Value), _ → Try.prog.cellsOf f.type = 1 → (([c0, c1, c2, c3, c4, c5, c6, c7] : List Value).drop f.offset).take 1 = [c] → DataW.trod enc Try.prog w base sp held n f.type [c] = xs[i]? := fun i f c h1 h2 h3 => by
      have := hf i f h1
      rw [h2, h3] at this
      exact this
    have f0 := (g 0 _ c0 rfl cellsInt rfl).trans (List.getElem?_eq_getElem (by omega))
    have f1 := (g 1 _ c1 rfl cellsBool rfl).trans (List.getElem?_eq_getElem (by omega))
    have f2 := (g 2 _ c2 rfl cellsInt rfl).trans (List.getElem?_eq_getElem (by omega))
    have f3 := (g 3 _ c3 rfl cellsInt rfl).trans (List.getElem?_eq_getElem (by omega))
    have f4 := (g 4 _ c4 rfl cellsStr rfl).trans (List.getElem?_eq_getElem (by omega))
    have f5 := (g 5 _ c5 rfl cellsInt rfl).trans (List.getElem?_eq_getElem (by omega))
    have f6 := (g 6 _ c6 rfl cellsInt rfl).trans (List.getElem?_eq_getElem (by omega))
    have f7 := (g 7 _ c7 rfl cellsInt rfl).trans (List.getElem?_eq_getElem (by omega))
    obtain ⟨a0, e0, -⟩ := DataW.trod_int Try.underlying3 f0
    obtain ⟨a1, e1, -⟩ := DataW.trod_bool Try.underlying4 f1
    obtain ⟨a2, e2, -⟩ := DataW.trod_int Try.underlying3 f2
    obtain ⟨a3, e3, -⟩ := DataW.trod_int Try.underlying3 f3
    obtain ⟨a4, e4, -⟩ := DataW.trod_string Try.underlying9 f4
    obtain ⟨a5, e5, -⟩ := DataW.trod_int Try.underlying3 f5
    obtain ⟨a6, e6, -⟩ := DataW.trod_int Try.underlying3 f6
    obtain ⟨a7, e7, -⟩ := DataW.trod_int Try.underlying3 f7
    simp only [List.cons.injEq, and_true] at e0 e1 e2 e3 e4 e5 e6 e7
    refine ⟨⟨a0, a1, a2, a3, a4.data.toList, a5, a6, a7⟩, ?_⟩
    rw [e0, e1, e2, e3, e4, e5, e6, e7]
    rfl
theorem open_objs {H : Type} {enc : TypeId × Value → H} {w : World} {base : Nat} {held : Bool} {r : Reach} {b0 : Nat} {v : Value} {d : DataW H} {ps : List MemPlace}
    (hval : Value.okWide Try.prog w r b0 25 v) (hd : DataW.Trod enc Try.prog w base (fun _ => true) held 25 v d ps) :
    ∃ p l c, v = .slice p (l : List ObjV).length c ∧ RowM objL w p l ∧ l.length ≤ c ∧ (l = [] → c = 0 ∨ p ≠ none) ∧ c ≤ maxLen ∧ (p = none → l = [] ∧ c = 0) ∧ (l = [] ∨ ∃ elems spare, d = .slice elems spare ∧ l.length = elems.length) := by
  obtain ⟨a0, len, cap, rfl⟩ := okWide_slice Try.underlying25 hval
  obtain ⟨fuel, hf⟩ := hd
  rcases Go.Deep.open_slice Try.underlying25 hf with ⟨hcs, -⟩ | ⟨a, len', cap', k, n, D, Pl, hcs, _, hl, hm, hk, hdd, hx⟩
  · simp [Value.cells] at hcs
    obtain ⟨rfl, rfl, rfl⟩ := hcs
    exact ⟨none, [], 0, rfl, RowM.nil w, Nat.le_refl _, fun _ => .inl rfl, by unfold maxLen; omega, fun _ => ⟨rfl, rfl⟩, .inl rfl⟩
  · simp [Value.cells] at hcs
    obtain ⟨rfl, rfl, rfl⟩ := hcs
    simp only [if_true] at hk
    rw [cellsObj] at hx
    have key : ∀ i, i < len → ∃ o : ObjV, ∀ q, q < 8 → w.cell? (a.add (i * 8 + q)) = (objV o)[q]? := fun i hi => by
      obtain ⟨cs, h1, h2⟩ := hx i (by omega)
      obtain ⟨o, rfl⟩ := open_obj h2
      obtain ⟨-, -, h3⟩ := World.cells?_some h1
      exact ⟨o, fun q hq => by rw [← add_add]; exact h3 q hq⟩
    obtain ⟨F, hF⟩ : ∃ F : Nat → ObjV, ∀ i, i < len → ∀ q, q < 8 → w.cell? (a.add (i * 8 + q)) = (objV (F i))[q]? :=
      ⟨fun i => if h : i < len then (key i h).choose else objZ, fun i hi => by simp only [dif_pos hi]; exact (key i hi).choose_spec⟩
    have hlen : ((List.range len).map F).length = len := by simp
    refine ⟨some a, (List.range len).map F, cap, by rw [hlen], ⟨fun _ => rfl, fun i hi q hq => ?_⟩, by omega, fun _ => .inr (by simp), hm, fun h => (by cases h), .inr ⟨_, _, congrArg Prod.fst hdd, by rw [hlen]; simp⟩⟩
    rw [hlen] at hi
    rw [show pA (some a) = a from rfl, List.getElem_map, List.getElem_range]
    exact hF i hi q hq

end Go.Proofs.Ytnjalolknhepdaa
