/-
  The walk over what is known of a frame: rows of a call's own that grow, what a call may touch. Over any program.
-/
import Derived.Test.YtjghbcjnplcleaaGreatDoorFwB
namespace Go.Proofs.YtjghbcjnplcleaaGreatDoor
open Go.RowKit

/-- below block B nothing has turned but block r -/
structure Touch (B r : Nat) (w w1 : World) : Prop where
  os : w1.os = w.os
  tape : w1.tape = w.tape
  output : w1.output = w.output
  size : w.heap.size ≤ w1.heap.size
  block : ∀ k, k < B → k ≠ r → w1.heap[k]? = w.heap[k]?
theorem Touch.refl (B r : Nat) (w : World) : Touch B r w w := ⟨rfl, rfl, rfl, Nat.le_refl _, fun _ _ _ => rfl⟩
theorem Touch.trans {B r : Nat} {a b c : World} (h : Touch B r a b) (k : Touch B r b c) : Touch B r a c :=
  ⟨k.os.trans h.os, k.tape.trans h.tape, k.output.trans h.output, Nat.le_trans h.size k.size, fun i hi hr => (k.block i hi hr).trans (h.block i hi hr)⟩
theorem Touch.mono {B B' r : Nat} {a b : World} (h : Touch B r a b) (hB : B' ≤ B) : Touch B' r a b := ⟨h.os, h.tape, h.output, h.size, fun i hi hr => h.block i (by omega) hr⟩
theorem Touch.of_below {B r : Nat} {a b : World} (h : Below B a b) : Touch B r a b := ⟨h.os, h.tape, h.output, h.size, fun i hi _ => h.block i hi⟩
theorem Touch.of_drew {B r : Nat} {a b : World} (h : Drew a b) : Touch B r a b := Touch.of_below (h.below (Below.refl _ _))
theorem Touch.of_upd {B r : Nat} {a b : World} (h : Upd r a b) : Touch B r a b := ⟨h.os, h.tape, h.output, h.size, fun i _ hr => h.other i hr⟩
theorem Touch.of_new {B r c : Nat} {a b : World} (h : Upd c a b) (hc : B ≤ c) : Touch B r a b := ⟨h.os, h.tape, h.output, h.size, fun i hi _ => h.other i (by omega)⟩
/-- .. where block r is new itself -/
theorem Touch.below {B B' r : Nat} {a b : World} (h : Touch B' r a b) (hB : B ≤ B') (hr : B ≤ r) : Below B a b := ⟨h.os, h.tape, h.output, h.size, fun i hi => h.block i (by omega) (by omega)⟩
theorem Blk.touch {B r c : Nat} {w w1 : World} {cs : Array Value} {t : TypeId} (h : Blk w c cs t) (hT : Touch B r w w1) (hc : c < B) (hr : c ≠ r) : Blk w1 c cs t := (hT.block c hc hr).trans h
theorem BytesAt.touch {B r : Nat} {w w1 : World} {p : Option Addr} {l : List UInt8} (h : BytesAt w p l) (hT : Touch B r w w1) (hp : 0 < l.length → (pA p).block < B ∧ (pA p).block ≠ r) : BytesAt w1 p l :=
  ⟨h.isp, fun j hj => by
    obtain ⟨h1, h2⟩ := hp (by omega)
    rw [World.cell?_of_block (w := w) (hT.block _ (by rw [add_block]; exact h1) (by rw [add_block]; exact h2))]; exact h.cells j hj⟩
theorem BytesAt.drew {w w1 : World} {p : Option Addr} {l : List UInt8} (h : BytesAt w p l) (d : Drew w w1) : BytesAt w1 p l := by obtain ⟨m, rfl⟩ := d; exact h.drewN m

section
variable {P : Program} {n : Sh} {f : Fr}
/-- a slice of the call's own, one cell an element, from block B on -/
def Own (e : TypeId) (B : Nat) (w : World) (v : Value) (xs : List Value) : Prop := w.ownsRow B e 1 v xs.length xs
theorem Own.nil (e : TypeId) (B : Nat) (w : World) : Own e B w (.slice none 0 0) [] := World.ownsRow_nil w B e 1
theorem Own.slice {e : TypeId} {B : Nat} {w : World} {v : Value} {xs : List Value} (h : Own e B w v xs) : ∃ p c, v = .slice p xs.length c := by
  obtain ⟨hl, h⟩ := h
  rcases h with ⟨rfl, h0⟩ | ⟨g, cap, cur, rfl, -⟩
  · exact ⟨none, 0, by rw [h0]⟩
  · exact ⟨_, cap, rfl⟩
theorem Own.touch {e : TypeId} {B r : Nat} {w w1 : World} {v : Value} {xs : List Value} (h : Own e B w v xs) (hu : Upd r w w1) (hr : r < B) : Own e B w1 v xs := by
  obtain ⟨hl, h⟩ := h
  refine ⟨hl, h.imp id fun ⟨g, cap, cur, h1, h2, h3, h4⟩ => ⟨g, cap, cur, h1, h2, (hu.other g (by omega)).trans h3, h4⟩⟩
theorem Own.new {e : TypeId} {B b : Nat} {w w1 : World} {v : Value} {xs : List Value} (h : Own e B w v xs) (eb : b = w.heap.size) (hu : Upd b w w1) : Own e B w1 v xs := by
  obtain ⟨hl, h⟩ := h
  refine ⟨hl, h.imp id fun ⟨g, cap, cur, h1, h2, h3, h4⟩ => ⟨g, cap, cur, h1, h2, (hu.other g (by have := (Array.getElem?_eq_some_iff.1 h3).1; omega)).trans h3, h4⟩⟩
theorem Own.below {e : TypeId} {B : Nat} {w w1 : World} {v : Value} {xs : List Value} (h : Own e B w v xs) (hb : Below w.heap.size w w1) : Own e B w1 v xs := by
  obtain ⟨hl, h⟩ := h
  refine ⟨hl, h.imp id fun ⟨g, cap, cur, h1, h2, h3, h4⟩ => ⟨g, cap, cur, h1, h2, (hb.block g (Array.getElem?_eq_some_iff.1 h3).1).trans h3, h4⟩⟩
theorem Own.touch' {e : TypeId} {B r : Nat} {w w1 : World} {v : Value} {xs : List Value} (h : Own e B w v xs) (hT : Touch w.heap.size r w w1) (hr : r < B) : Own e B w1 v xs := by
  obtain ⟨hl, h⟩ := h
  refine ⟨hl, h.imp id fun ⟨g, cap, cur, h1, h2, h3, h4⟩ => ⟨g, cap, cur, h1, h2, (hT.block g (Array.getElem?_eq_some_iff.1 h3).1 (by omega)).trans h3, h4⟩⟩
theorem Own.drew {e : TypeId} {B : Nat} {w w1 : World} {v : Value} {xs : List Value} (h : Own e B w v xs) (d : Drew w w1) : Own e B w1 v xs := by obtain ⟨m, rfl⟩ := d; exact h
/-- an own row of bytes reads as bytes -/
theorem Own.bytes {e : TypeId} {B : Nat} {w : World} {v : Value} {l : List UInt8} (h : Own e B w v (byteVals l)) : ∃ p c, v = .slice p l.length c ∧ BytesAt w p l ∧ (0 < l.length → B ≤ (pA p).block) := by
  have hbl : (byteVals l).length = l.length := by simp [byteVals]
  obtain ⟨hl, h⟩ := h
  rcases h with ⟨rfl, h0⟩ | ⟨g, cap, cur, rfl, hB, hg, hnc, hcm, hcs, htake⟩
  · obtain rfl : l = [] := by rw [hbl] at h0; exact List.length_eq_zero_iff.1 h0
    exact ⟨none, 0, rfl, BytesAt.nil w, fun h => by simp at h⟩
  · rw [hbl] at hnc htake ⊢
    refine ⟨_, cap, rfl, ⟨fun _ => rfl, fun j hj => ?_⟩, fun _ => hB⟩
    have e1 : (pA (some ⟨g, 0, none⟩)).add j = ⟨g, j, none⟩ := by
      show (⟨g, 0, none⟩ : Addr).add j = _
      unfold Addr.add; split
      · next h => subst h; rfl
      · simp
    have hc := Lib.cell_of_heap hg j
    rw [e1, hc, ← Array.getElem?_toList]
    have h2 : (cur.toList.take (l.length * 1))[j]? = (byteVals l)[j]? := by rw [htake]
    rw [List.getElem?_take, if_pos (by omega)] at h2
    rw [h2]
    simp [byteVals, hj]
/-- one more element -/
theorem WL.app1 {ops : Array Oper} {Q : Exit → Fr → World → Prop} {w : World} {rest : List Oper} {d ty : Nat} {pos : String} {aft : Array Edge} {s x : Operand} {t e : TypeId} {B : Nat} {i : TypeInfo} {z v u : Value} {xs : List Value} {b c by' : Nat} {tb : TypeId}
    (ht : P.underlying t = some (.slice e)) (hi : P.info? e = some i) (hz : i.zero = some z) (hsize : i.size = 1) (hby : i.bytes = by') (hby2 : by' ≤ 16) (hzs : z.cells.size = 1)
    (hs : evo f s = some v) (hown : Own e B w v xs) (hx : evo f x = some (.slice (some ⟨b, 0, none⟩) 1 c)) (hb : Blk w b #[u] tb) (h1 : u.oneCell' = true)
    (hn : xs.length ≤ 1000000000) (hB : B ≤ w.heap.size) (hd : Nat.blt d n.n = true)
    (k : ∀ v' w', Own e B w' v' (xs ++ [u]) → Below B w w' → w.grownBy w' v.ownBlock → WL P n ops Q rest ((d, v') :: f) w') :
    WL P n ops Q (⟨some d, .call ⟨.builtin .append, #[s, x], #[t, t]⟩, ty, pos, aft, none⟩ :: rest) f w := by
  obtain ⟨v', w', h2, h3, h4, -⟩ := run_append_own (P := P) (w := w) B t ty e i z 1 by' ht hi hz hsize hby hzs (by decide) v xs.length xs hown ⟨b, 0, none⟩ 1 c [u] rfl
    (fun j y hj => by
      have h0 : j = 0 := by
        rcases Nat.eq_zero_or_pos j with h | h
        · exact h
        · rw [List.getElem?_eq_none (by simp; omega)] at hj; cases hj
      subst h0
      simp only [List.getElem?_cons_zero, Option.some.injEq] at hj
      subst hj
      rw [add_zero_addr, hb.cell 0]; rfl) (by simpa using h1) (by unfold maxLen; omega) (by
      have : (xs.length + 1) * by' ≤ (xs.length + 1) * 16 := Nat.mul_le_mul_left _ hby2
      omega) hB
  refine WL.run hd (w' := w') (v := v') (fun ρ hρ => ?_) (k v' w' ?_ ((Below.refl _ _).grown h4 hB fun k hk => (hown.lt k hk).1) h4)
  · unfold execOp
    simp only [resolve, invoke, builtin, Sem.run_bind, Sem.run_pure, Result.andThen_ok, List.map_toArray, List.map_cons, List.map_nil, hρ _ _ hs, hρ _ _ hx, h2]
  · have e1 : (xs ++ [u]).length = xs.length + 1 := by simp
    unfold Own
    rw [e1]; exact h3
/-- an error's number as an interface's value -/
theorem Pure.mkI {tx : TypeId} {x : Operand} {k : IntKind} {v : Value} (hu : P.underlying tx = some (.int k)) (hx : evo f x = some v) : Pure P (.makeInterface tx x) f (.iface tx v) := fun ρ hρ d ty pos aft g w => by
  simp [execOp, hρ _ _ hx, Instr.makeInterface, run_underlying hu]
theorem WL.panic {ops : Array Oper} {Q : Exit → Fr → World → Prop} {w : World} {rest : List Oper} {d : Option Tmp} {ty : Nat} {pos : String} {aft : Array Edge} {x : Operand} {t : TypeId} {v : Value}
    (hx : evo f x = some (.iface t v)) (k : Q (.panic [{ v := .iface t v, recovered := false }]) f w) : WL P n ops Q (⟨d, .panic x, ty, pos, aft, none⟩ :: rest) f w :=
  WL.pn (fun ρ hρ => by simp [execOp, hρ _ _ hx, Instr.panic]) k

/-- what a call that may panic with an error's number comes to -/
def Ends {α : Type} (E : TypeId) (res : Except Int α) (V : α → Value) (S : α → World → Prop) (S' : World → Prop) (e : Ending) (w : World) : Prop :=
  match res with
  | .ok a => e = .returned (V a) ∧ S a w
  | .error k => e = .panicked [{ v := .iface E (.int .i64 k), recovered := false }] ∧ S' w
theorem WL.ce {ops : Array Oper} {Q : Exit → Fr → World → Prop} {w : World} {rest : List Oper} {d ty : Nat} {pos : String} {aft : Array Edge} {F : FuncId} {xs : List Operand} {ats : Array TypeId} {vs : List Value} {α : Type}
    {E : TypeId} {res : Except Int α} {V : α → Value} {S : α → World → Prop} {S' : World → Prop} (hb : HasBody P F) (hx : evs f xs = some vs) (hd : Nat.blt d n.n = true)
    (hc : Calls P F vs.toArray w (Ends E res V S S')) (herr : ∀ k w', res = .error k → S' w' → Q (.panic [{ v := .iface E (.int .i64 k), recovered := false }]) f w')
    (hok : ∀ a w', res = .ok a → S a w' → WL P n ops Q rest ((d, V a) :: f) w') : WL P n ops Q (⟨some d, .call ⟨.value (.func F), xs.toArray, ats⟩, ty, pos, aft, none⟩ :: rest) f w := by
  cases hres : res with
  | ok a => exact WL.c1 hb hx hd (hc.mono fun e w' h => by rw [hres] at h; exact h) fun w' h => hok a w' hres h
  | error k => exact WL.cp hb hx (hc.mono fun e w' h => by rw [hres] at h; exact h) fun w' h => herr k w' hres h
theorem Ends.ok {α : Type} {E : TypeId} {res : Except Int α} {V : α → Value} {S : α → World → Prop} {S' : World → Prop} {e : Ending} {w : World} (a : α) (h : res = .ok a) (he : e = .returned (V a)) (hs : S a w) : Ends E res V S S' e w := by
  unfold Ends; rw [h]; exact ⟨he, hs⟩
theorem Ends.err {α : Type} {E : TypeId} {res : Except Int α} {V : α → Value} {S : α → World → Prop} {S' : World → Prop} {w : World} (k : Int) (h : res = .error k) (hs : S' w) : Ends E res V S S' (.panicked [{ v := .iface E (.int .i64 k), recovered := false }]) w := by
  unfold Ends; rw [h]; exact ⟨rfl, hs⟩
end

end Go.Proofs.YtjghbcjnplcleaaGreatDoor
