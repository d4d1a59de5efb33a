/-
  The walk over what is known of a frame: strings to bytes; rows of other elements. Over any program.
-/
import Derived.Test.YtjghbcjnplcleaaGreatDoorFwE
import Derived.Lib.ConvBytes
import Derived.Laws.AppendOwn
namespace Go.Proofs.YtjghbcjnplcleaaGreatDoor
open Go.RowKit Go.WideShapes Go.ChangeShapes

section
variable {P : Program} {n : Sh} {f : Fr}
/-- a string's bytes in a block of their own -/
theorem WL.s2b {ops : Array Oper} {Q : Exit → Fr → World → Prop} {w : World} {rest : List Oper} {d ty : Nat} {pos : String} {aft : Array Edge} {x : Operand} {src dst e : TypeId} {l : List UInt8}
    (hs : P.underlying src = some .string) (hd' : P.underlying dst = some (.slice e)) (he : P.underlying e = some (.int .u8)) (hx : evo f x = some (.string (bs l))) (hd : Nat.blt d n.n = true)
    (k : ∀ b w1 c, b = w.heap.size → BytesAt w1 (some ⟨b, 0, none⟩) l → l.length ≤ c → Upd b w w1 → w1.heap.size = b + 1 → WL P n ops Q rest ((d, .slice (some ⟨b, 0, none⟩) l.length c) :: f) w1) :
    WL P n ops Q (⟨some d, .convert src dst x, ty, pos, aft, none⟩ :: rest) f w := by
  have hrun := Lib.run_convert_string_bytes (P := P) w src dst e (bs l) hs hd' he
  have hsz : (bs l).size = l.length := by simp [bs, ByteArray.size]
  have hu : Upd w.heap.size w (Lib.bytesWorld w e (bs l)) := ⟨rfl, rfl, rfl, by rw [Lib.bytesWorld_size]; omega, fun j hj => by
    rcases Nat.lt_or_ge j w.heap.size with h | h
    · exact Lib.bytesWorld_at_old w e (bs l) j h
    · rw [Array.getElem?_eq_none (by rw [Lib.bytesWorld_size]; omega), Array.getElem?_eq_none h]⟩
  refine WL.run hd (w' := Lib.bytesWorld w e (bs l)) (v := .slice (some ⟨w.heap.size, 0, none⟩) l.length (grownCap w l.length 0 e)) (fun ρ hρ => ?_)
    (k _ _ _ rfl ⟨fun _ => rfl, fun j hj => ?_⟩ (grownCap_ge w l.length 0 e) hu (Lib.bytesWorld_size w e (bs l)))
  · unfold execOp
    simp only [hρ _ _ hx, Sem.run_bind, hrun, Result.andThen_ok, Sem.run_pure, hsz]
  · have e1 : (pA (some ⟨w.heap.size, 0, none⟩)).add j = ⟨w.heap.size, j, none⟩ := by
      show (⟨w.heap.size, 0, none⟩ : Addr).add j = _
      unfold Addr.add; split
      · next h => rw [h]
      · simp
    rw [e1, Lib.bytesWorld_cell w e (bs l) j (by rw [hsz]; exact hj)]
    simp [bs, List.getD, hj]
/-- a literal as a row of the call's own -/
theorem Own.lit {w : World} {b m : Nat} {cs : Array Value} {e : TypeId} (h : Blk w b cs e) (hm : cs.size = m) (hl : m ≤ maxLen) : Own e b w (.slice (some ⟨b, 0, none⟩) m m) cs.toList := by
  subst hm
  refine ⟨by simp, .inr ⟨b, cs.size, cs, ?_, Nat.le_refl _, h, by simp, hl, by simp, by rw [List.take_of_length_le (by simp)]⟩⟩
  simp
end
/-- elements of one cell each in memory -/
structure RowAt {α : Type} (V : α → Value) (w : World) (p : Option Addr) (l : List α) : Prop where
  isp : 0 < l.length → p = some (pA p)
  cells : ∀ j (h : j < l.length), w.cell? ((pA p).add j) = some (V l[j])
section
variable {α : Type} {V : α → Value}
theorem RowAt.lt {w : World} {p : Option Addr} {l : List α} (h : RowAt V w p l) (h0 : 0 < l.length) : (pA p).block < w.heap.size := by
  have := h.cells 0 h0
  rcases Nat.lt_or_ge (pA p).block w.heap.size with h' | h'
  · exact h'
  · exfalso
    have hb : ((pA p).add 0).block = (pA p).block := add_block _ _
    unfold World.cell? at this
    rw [hb, Array.getElem?_eq_none h'] at this
    cases this
theorem RowAt.below {w w1 : World} {B : Nat} {p : Option Addr} {l : List α} (h : RowAt V w p l) (hb : Below B w w1) (hp : 0 < l.length → (pA p).block < B) : RowAt V w1 p l :=
  ⟨h.isp, fun j hj => by rw [World.cell?_of_block (w := w) (hb.block _ (by rw [add_block]; exact hp (by omega)))]; exact h.cells j hj⟩
theorem RowAt.upd {w w1 : World} {b : Nat} {p : Option Addr} {l : List α} (h : RowAt V w p l) (hu : Upd b w w1) (hp : 0 < l.length → (pA p).block ≠ b) : RowAt V w1 p l :=
  ⟨h.isp, fun j hj => by rw [World.cell?_of_block (w := w) (hu.other _ (by rw [add_block]; exact hp (by omega)))]; exact h.cells j hj⟩
theorem RowAt.drewN {w : World} {p : Option Addr} {l : List α} (h : RowAt V w p l) (m : Nat) : RowAt V (w.drewN m) p l := ⟨h.isp, h.cells⟩
theorem RowAt.drew {w w1 : World} {p : Option Addr} {l : List α} (h : RowAt V w p l) (d : Drew w w1) : RowAt V w1 p l := by obtain ⟨m, rfl⟩ := d; exact h.drewN m
theorem RowAt.nil (w : World) : RowAt V w none [] := ⟨fun h => by simp at h, fun j h => by simp at h⟩
theorem RowAt.lit {w : World} {b : Nat} {cs : Array Value} {t : TypeId} {l : List α} (h : Blk w b cs t) (e : cs = (l.map V).toArray) : RowAt V w (some ⟨b, 0, none⟩) l := by
  subst e
  refine ⟨fun _ => rfl, fun j hj => ?_⟩
  have e1 : (pA (some ⟨b, 0, none⟩)).add j = ⟨b, j, none⟩ := by
    show (⟨b, 0, none⟩ : Addr).add j = _
    unfold Addr.add; split
    · next h => subst h; rfl
    · simp
  rw [e1, h.cell j]
  simp [hj]
/-- an own row read as elements -/
theorem Own.row {e : TypeId} {B : Nat} {w : World} {v : Value} {l : List α} (h : Own e B w v (l.map V)) : ∃ p c, v = .slice p l.length c ∧ RowAt V w p l ∧ (0 < l.length → B ≤ (pA p).block) ∧ l.length ≤ c ∧ (l = [] → c = 0 ∨ p ≠ none) := by
  have hbl : (l.map V).length = l.length := by simp
  obtain ⟨hl, h⟩ := h
  rcases h with ⟨rfl, h0⟩ | ⟨g, cap, cur, rfl, hB, hg, hnc, hcm, hcs, htake⟩
  · obtain rfl : l = [] := by rw [hbl] at h0; exact List.length_eq_zero_iff.1 h0
    exact ⟨none, 0, rfl, RowAt.nil w, fun h => by simp at h, Nat.le_refl _, fun _ => .inl rfl⟩
  · rw [hbl] at hnc htake ⊢
    refine ⟨_, cap, rfl, ⟨fun _ => rfl, fun j hj => ?_⟩, fun _ => hB, hnc, fun _ => .inr (by simp)⟩
    have e1 : (pA (some ⟨g, 0, none⟩)).add j = ⟨g, j, none⟩ := by
      show (⟨g, 0, none⟩ : Addr).add j = _
      unfold Addr.add; split
      · next h => subst h; rfl
      · simp
    have hc := Lib.cell_of_heap hg j
    rw [e1, hc, ← Array.getElem?_toList]
    have h2 : (cur.toList.take (l.length * 1))[j]? = (l.map V)[j]? := by rw [htake]
    rw [List.getElem?_take, if_pos (by omega)] at h2
    rw [h2]
    simp [hj]
end
/-- a string's byte, the index of any kind -/
theorem Pure.ixk {P : Program} {f : Fr} {x y : Operand} {tx : TypeId} {l : List UInt8} {kd : IntKind} {i : Int} (hu : P.underlying tx = some .string) (hx : evo f x = some (.string (bs l))) (hi : evo f y = some (.int kd i)) (k : Nat) (e : i = k) (hk : k < l.length) : Pure P (.index tx x y) f (.int .u8 (l[k].toNat : Int)) := fun ρ hρ d ty pos aft g w => by
  subst e
  have h1 : (bs l)[k]? = some l[k] := by
    have : k < (bs l).size := by rw [bs_size]; exact hk
    rw [getElem?_pos (bs l) k this]; rfl
  simp [execOp, Instr.index, hρ _ _ hx, hρ _ _ hi, asIntOf, run_underlying hu, h1]
/-- strings -/
abbrev strV (s : List UInt8) : Value := .string (bs s)

end Go.Proofs.YtjghbcjnplcleaaGreatDoor
