/-
  The walk over what is known of a frame: slices of a call's own made empty, bytes appended. Over any program.
-/
import Derived.Test.YtjghbcjnplcleaaGreatDoorFwS
import Derived.Carry
import Derived.ChangeSlices
namespace Go.Proofs.YtjghbcjnplcleaaGreatDoor
open Go.RowKit Go.WideShapes Go.ChangeShapes

section
variable {P : Program} {n : Sh} {f : Fr}
/-- an empty slice -/
theorem WL.bsl0 {ops : Array Oper} {Q : Exit → Fr → World → Prop} {w : World} {rest : List Oper} {d ty : Nat} {pos : String} {aft : Array Edge} {t e : TypeId} {sz : Nat}
    (hu : P.underlying t = some (.slice e)) (hs : ∀ w, (sizeOf e).run P w = .ok sz w) (hd : Nat.blt d n.n = true)
    (k : ∀ b w1, b = w.heap.size → (∀ B, B ≤ b → w1.ownsRow B e sz (.slice (some ⟨b, 0, none⟩) 0 0) 0 []) → Upd b w w1 → w1.heap.size = b + 1 → WL P n ops Q rest ((d, .slice (some ⟨b, 0, none⟩) 0 0) :: f) w1) :
    WL P n ops Q (⟨some d, .buildSlice t 0 [].toArray, ty, pos, aft, none⟩ :: rest) f w := by
  refine WL.run hd (w' := w.alloc (.cells #[] e)) (v := .slice (some ⟨w.heap.size, 0, none⟩) 0 0) (fun ρ hρ => ?_)
    (k _ _ rfl (fun B hB => ⟨by simp, .inr ⟨w.heap.size, 0, #[], rfl, hB, Blk.alloc _ _ _, Nat.le_refl _, by unfold maxLen; omega, by simp, by simp⟩⟩) (Upd.alloc _ _) (by simp))
  unfold execOp
  have h0 : Array.map (fun _ => (default : Value)) (Array.range 0) = #[] := by simp
  simp [Instr.buildSlice, run_underlying hu, hs, Instr.fill, h0, newRow]
/-- bytes put behind a row of the call's own -/
theorem WL.appB {ops : Array Oper} {Q : Exit → Fr → World → Prop} {w : World} {rest : List Oper} {d ty : Nat} {pos : String} {aft : Array Edge} {s x : Operand} {t e : TypeId} {B : Nat} {z v : Value} {xs : List Value} {p : Option Addr} {l : List UInt8} {c by' : Nat}
    (ht : P.underlying t = some (.slice e)) (hi : (P.info? e).map (fun i => (i.zero, i.size, i.bytes)) = some (some z, 1, by')) (hby2 : Nat.ble by' 16 = true) (hzs : z.cells.size = 1)
    (hs : evo f s = some v) (hown : Own e B w v xs) (hx : evo f x = some (.slice p l.length c)) (hb : BytesAt w p l)
    (hn : xs.length + l.length ≤ 1000000000) (hB : B ≤ w.heap.size) (hd : Nat.blt d n.n = true) (hc : l = [] → c = 0 ∨ p ≠ none)
    (k : ∀ v' w', Own e B w' v' (xs ++ byteVals l) → Below B w w' → w.grownBy w' v.ownBlock → WL P n ops Q rest ((d, v') :: f) w') :
    WL P n ops Q (⟨some d, .call ⟨.builtin .append, #[s, x], #[t, t]⟩, ty, pos, aft, none⟩ :: rest) f w := by
  cases hh : P.info? e with
  | none => rw [hh] at hi; cases hi
  | some i =>
    rw [hh] at hi
    simp only [Option.map_some, Option.some.injEq, Prod.mk.injEq] at hi
    obtain ⟨hz, hsize, hby⟩ := hi
    have hby2' : by' ≤ 16 := by simpa using hby2
    cases hp : p with
    | none =>
      have hl : l = [] := by
        cases l with
        | nil => rfl
        | cons a r => have := hb.isp (by simp); rw [hp] at this; cases this
      have hc0 : c = 0 := (hc hl).resolve_right (fun h => h hp)
      subst hp; subst hl; subst hc0
      have h2 := run_append_owned_none (P := P) (w := w) B t ty e i 1 ht hh v xs.length xs hown
      refine WL.run hd (w' := w) (v := v) (fun ρ hρ => ?_) (k v w (by simpa [byteVals] using hown) (Below.refl _ _) ⟨rfl, rfl, rfl, Nat.le_refl _, fun _ _ _ => rfl⟩)
      unfold execOp
      simp only [resolve, invoke, builtin, Sem.run_bind, Sem.run_pure, Result.andThen_ok, List.map_toArray, List.map_cons, List.map_nil, hρ _ _ hs, hρ _ _ hx, List.length_nil, h2]
    | some a =>
      subst hp
      obtain ⟨v', w', h2, h3, h4, -⟩ := run_append_own (P := P) (w := w) B t ty e i z 1 by' ht hh hz hsize hby hzs (by decide) v xs.length xs hown a l.length c (byteVals l) (by simp [byteVals])
        (fun j y hj => by
          have hj' : j < l.length := by
            rcases Nat.lt_or_ge j l.length with h | h
            · exact h
            · rw [List.getElem?_eq_none (by rw [byteVals_len]; omega)] at hj; cases hj
          have := hb.cells j hj'
          rw [show pA (some a) = a from rfl] at this
          rw [this]
          rw [← hj]; simp [byteVals, hj'])
        (fun u hu => by simp only [byteVals, List.mem_map] at hu; obtain ⟨y, -, rfl⟩ := hu; rfl) (by unfold maxLen; omega) (by
          have : (xs.length + l.length) * by' ≤ (xs.length + l.length) * 16 := Nat.mul_le_mul_left _ hby2'
          omega) hB
      refine WL.run hd (w' := w') (v := v') (fun ρ hρ => ?_) (k v' w' ?_ ((Below.refl _ _).grown h4 hB fun k hk => (hown.lt k hk).1) h4)
      · unfold execOp
        simp only [resolve, invoke, builtin, Sem.run_bind, Sem.run_pure, Result.andThen_ok, List.map_toArray, List.map_cons, List.map_nil, hρ _ _ hs, hρ _ _ hx, h2]
      · have e1 : (xs ++ byteVals l).length = xs.length + l.length := by simp [byteVals]
        unfold Own
        rw [e1]; exact h3
/-- an own row of bytes reads as bytes; its room -/
theorem Own.bytesC {e : TypeId} {B : Nat} {w : World} {v : Value} {l : List UInt8} (h : Own e B w v (byteVals l)) : ∃ p c, v = .slice p l.length c ∧ BytesAt w p l ∧ (0 < l.length → B ≤ (pA p).block) ∧ l.length ≤ c ∧ (l = [] → c = 0 ∨ p ≠ none) := by
  obtain ⟨p, c, hv, hb, hB⟩ := h.bytes
  have hbl : (byteVals l).length = l.length := by simp [byteVals]
  obtain ⟨hl, h⟩ := h
  rcases h with ⟨rfl, h0⟩ | ⟨g, cap, cur, rfl, -, -, hnc, -⟩
  · simp only [Value.slice.injEq] at hv
    obtain ⟨rfl, h1, rfl⟩ := hv
    exact ⟨none, 0, by rw [← h1], hb, hB, by omega, fun _ => .inl rfl⟩
  · simp only [Value.slice.injEq] at hv
    obtain ⟨rfl, h1, rfl⟩ := hv
    exact ⟨_, _, by rw [h1], hb, hB, by omega, fun _ => .inr (by simp)⟩
end
theorem Drew.le {w w1 : World} {B : Nat} (h : B ≤ w.heap.size) (d : Drew w w1) : B ≤ w1.heap.size := by rw [d.size]; exact h
/-- a block of bytes, written out -/
theorem BytesAt.lit {w : World} {b : Nat} {cs : Array Value} {t : TypeId} {l : List UInt8} (h : Blk w b cs t) (e : cs = (byteVals l).toArray) : BytesAt w (some ⟨b, 0, none⟩) l := by
  subst e
  refine ⟨fun _ => rfl, fun j hj => ?_⟩
  have e1 : (pA (some ⟨b, 0, none⟩)).add j = ⟨b, j, none⟩ := by
    show (⟨b, 0, none⟩ : Addr).add j = _
    unfold Addr.add; split
    · next h => subst h; rfl
    · simp
  rw [e1, h.cell j]
  simp [byteVals, hj]
/-- bytes written out, as a conversion of a constant lays them -/
theorem WL.cvB {P : Program} {n : Sh} {f : Fr} {ops : Array Oper} {Q : Exit → Fr → World → Prop} {w : World} {rest : List Oper} {d ty : Nat} {pos : String} {aft : Array Edge} {x : Operand} {t e tb : TypeId} {b len cap : Nat} {cs : Array Value} (l : List UInt8)
    (ht : P.underlying t = some (.slice e)) (he : P.underlying e = some (.int .u8)) (hx : evo f x = some (.slice (some ⟨b, 0, none⟩) len cap)) (hb : Blk w b cs tb) (hl : cs = (byteVals l).toArray) (hd : Nat.blt d n.n = true)
    (k : ∀ w1, BytesAt w1 (some ⟨b, 0, none⟩) l → Upd b w w1 → w1.heap.size = w.heap.size → WL P n ops Q rest ((d, .slice (some ⟨b, 0, none⟩) len cap) :: f) w1) :
    WL P n ops Q (⟨some d, .convert t t x, ty, pos, aft, none⟩ :: rest) f w := by
  have hsh : w.shape? b = some (tb, cs.size) := by unfold World.shape?; rw [show w.heap[b]? = _ from hb]
  have hlt := hb.lt
  have hheap : (w.freeze ⟨b, cs.size, none⟩ 1).heap = w.heap.modify b fun
      | .cells c elem (lo, hi) => .cells c elem (if lo == hi then (cs.size, cs.size + 1) else (min lo cs.size, max hi (cs.size + 1)))
      | o => o := rfl
  have hat : (w.freeze ⟨b, cs.size, none⟩ 1).heap[b]? = some (.cells cs tb (cs.size, cs.size + 1)) := by
    rw [hheap, Array.getElem?_modify, if_pos rfl, show w.heap[b]? = _ from hb]; rfl
  have hu : Upd b w (w.freeze ⟨b, cs.size, none⟩ 1) := ⟨rfl, rfl, rfl, by rw [hheap]; simp, fun k hk => by rw [hheap, Array.getElem?_modify, if_neg (Ne.symm hk)]⟩
  refine WL.run hd (w' := w.freeze ⟨b, cs.size, none⟩ 1) (v := .slice (some ⟨b, 0, none⟩) len cap) (fun ρ hρ => ?_) (k _ ?_ hu (by rw [hheap]; simp))
  · unfold execOp
    simp [hρ _ _ hx, convert, run_underlying ht, run_underlying he, markStringish, hsh]
  · subst hl
    refine ⟨fun _ => rfl, fun j hj => ?_⟩
    have e1 : (pA (some ⟨b, 0, none⟩)).add j = ⟨b, j, none⟩ := by
      show (⟨b, 0, none⟩ : Addr).add j = _
      unfold Addr.add; split
      · next h => subst h; rfl
      · simp
    rw [e1, Lib.cell_of_heap hat j]
    simp [byteVals, hj]
/-- bytes that came in -/
theorem open_bytes {H : Type} {enc : TypeId × Value → H} {P : Program} {w : World} {base : Nat} {held : Bool} {r : Reach} {b0 : Nat} {t e : TypeId} {v : Value} {d : DataW H} {ps : List MemPlace} (ht : P.underlying t = some (.slice e)) (he : P.underlying e = some (.int .u8)) (hc : P.cellsOf e = 1)
    (hval : Value.okWide P w r b0 t v) (hd : DataW.Trod enc P w base (fun _ => true) held t v d ps) :
    ∃ p l c, v = .slice p (l : List UInt8).length c ∧ BytesAt w p l ∧ l.length ≤ c ∧ (l = [] → c = 0 ∨ p ≠ none) ∧ c ≤ maxLen := by
  obtain ⟨a0, len, cap, rfl⟩ := okWide_slice ht hval
  obtain ⟨fuel, hf⟩ := hd
  rcases open_ints ht he hc hf with ⟨hcs, -⟩ | ⟨a, len', cap', zs, hcs, _, hl, hm, hz, hx, hcell, hwz⟩
  · simp [Value.cells] at hcs
    obtain ⟨rfl, rfl, rfl⟩ := hcs
    exact ⟨none, [], 0, rfl, BytesAt.nil w, Nat.le_refl _, fun _ => .inl rfl, by unfold maxLen; omega⟩
  · simp [Value.cells] at hcs
    obtain ⟨rfl, rfl, rfl⟩ := hcs
    simp only [if_true] at hz
    have hlen : ((zs.take len).map fun z => z.toNat.toUInt8).length = len := by simp; omega
    refine ⟨some a, (zs.take len).map fun z => z.toNat.toUInt8, cap, by rw [hlen], ⟨fun _ => rfl, fun j hj => ?_⟩, by omega, fun _ => .inr (by simp), hm⟩
    rw [hlen] at hj
    have hjz : j < zs.length := by omega
    rw [show pA (some a) = a from rfl, hcell j hjz]
    have hw := hwz (zs[j]) (List.getElem_mem _)
    have hwf : 0 ≤ zs[j] ∧ zs[j] ≤ 255 := by
      simp only [Lit.wf, Bool.and_eq_true, decide_eq_true_eq] at hw
      exact hw
    simp only [List.getElem_map, List.getElem_take, List.getD, List.getElem?_eq_getElem hjz, Option.getD_some, Option.some.injEq, Value.int.injEq, true_and]
    have e : (zs[j].toNat.toUInt8).toNat = zs[j].toNat % 256 := by simp
    rw [e]; omega
/-- a reading of an argument stands behind a call that only lays new blocks -/
theorem trod_keep {H : Type} {enc : TypeId × Value → H} {P : Program} {t : TypeId} (hl : laidOutB P = true) (hr : P.readableRec t = true) (hrow : decide (t < P.types.size) = true) {W W' : World} {v : Value} {d : DataW H} {ps : List MemPlace}
    (h : DataW.Trod enc P W 0 (fun _ => true) true t v d ps) (hb : Below W.heap.size W W') (hlt : ∀ x ∈ ps, x.block < W.heap.size) :
    DataW.Trod enc P W' 0 (fun b => decide (b < W.heap.size)) true t v d ps := Below.trod hl hr (of_decide_eq_true hrow) h hb hlt

end Go.Proofs.YtjghbcjnplcleaaGreatDoor
