/-
  The walk over what is known of a frame: bytes of a string, appended to. Over any program.
-/
import Derived.Test.YteaohajihhpnmaaDoorFwF
import Derived.Lib.FrozenHead
namespace Go.Proofs.YteaohajihhpnmaaDoor
open Go.RowKit Go.WideShapes Go.ChangeShapes

/-- cells stored ahead of a frozen range -/
theorem run_storeCells_atT (P : Program) (g o : Nat) (t : TypeId) (fz : Nat × Nat) : ∀ (vs : List Value) (i : Nat) (cur : Array Value) (w : World), w.heap[g]? = some (.cells cur t fz) → o + i + vs.length ≤ fz.1 → o + i + vs.length ≤ cur.size → (∀ v ∈ vs, v.oneCell' = true) →
    (storeCells ⟨g, o, none⟩ vs i).run P w = .ok () (w.setRow g (cur.toList.take (o + i) ++ vs ++ cur.toList.drop (o + i + vs.length)).toArray)
  | [], i, cur, w, hg, _, _, _ => by
    simp only [storeCells, List.append_nil, List.length_nil, Nat.add_zero, List.take_append_drop, Array.toArray_toList]
    rw [setRow_self w g cur t fz hg]
    rfl
  | v :: rest, i, cur, w, hg, hfz, hl, h1 => by
    have hi : o + i < cur.size := by simp at hl; omega
    have hadd : (⟨g, o, none⟩ : Addr).add i = ⟨g, o + i, none⟩ := by unfold Addr.add; split <;> simp_all
    have hcell : w.cell? ⟨g, o + i, none⟩ = some cur[o + i] := by simp [World.cell?, hg, hi]
    have hfro : w.frozen? ⟨g, o + i, none⟩ = false := by
      obtain ⟨lo, hi'⟩ := fz
      simp only [World.frozen?, hg, Bool.and_eq_false_iff, decide_eq_false_iff_not]
      left
      simp only [List.length_cons] at hfz
      omega
    have hst : (store ((⟨g, o, none⟩ : Addr).add i) v).run P w = .ok () (w.setRow g (cur.setIfInBounds (o + i) v)) := by
      rw [hadd, run_store P w _ v _ (h1 v (by simp)), hcell]
      simp [hfro, setCell_eq_setRow w g (o + i) cur t fz v hg]
    have ih := run_storeCells_atT P g o t fz rest (i + 1) (cur.setIfInBounds (o + i) v) (w.setRow g (cur.setIfInBounds (o + i) v)) (setRow_heap w g cur _ t _ hg) (by simp only [List.length_cons] at hfz; omega) (by simp at hl ⊢; omega) (fun x hx => h1 x (by simp [hx]))
    simp only [storeCells, Sem.run_bind, hst, Result.andThen_ok, ih, setRow_setRow]
    congr 3
    have e := list_seg_step cur.toList (o + i) v rest (by simp at hl ⊢; omega)
    simpa [Array.toList_setIfInBounds, Nat.add_assoc] using e

/-- bytes as a conversion of a string lays them: the row's end is marked -/
structure Raw (w : World) (b c : Nat) (e : TypeId) (l : List UInt8) : Prop where
  cur : ∃ cur : Array Value, w.heap[b]? = some (.cells cur e (cur.size, cur.size + 1)) ∧ cur.size = c ∧ cur.toList.take l.length = byteVals l
  le : l.length ≤ c
theorem bytes_of_take {w : World} {g : Nat} {cur : Array Value} {e : TypeId} {fz : Nat × Nat} {l : List UInt8} (hg : w.heap[g]? = some (.cells cur e fz)) (ht : cur.toList.take l.length = byteVals l) : BytesAt w (some ⟨g, 0, none⟩) l := by
  refine ⟨fun _ => rfl, fun j hj => ?_⟩
  have e1 : (pA (some ⟨g, 0, none⟩)).add j = ⟨g, j, none⟩ := by
    show (⟨g, 0, none⟩ : Addr).add j = _
    unfold Addr.add; split
    · next h => subst h; rfl
    · simp
  rw [e1, Lib.cell_of_heap hg j, ← Array.getElem?_toList]
  have h2 : (cur.toList.take l.length)[j]? = (byteVals l)[j]? := by rw [ht]
  rw [List.getElem?_take, if_pos hj] at h2
  rw [h2]
  simp [byteVals, hj]
theorem Raw.bytes {w : World} {b c : Nat} {e : TypeId} {l : List UInt8} (h : Raw w b c e l) : BytesAt w (some ⟨b, 0, none⟩) l := by
  obtain ⟨cur, hg, -, ht⟩ := h.cur
  exact bytes_of_take hg ht
section
variable {P : Program} {n : Sh} {f : Fr}
theorem WL.s2r {ops : Array Oper} {Q : Exit → Fr → World → Prop} {w : World} {rest : List Oper} {d ty : Nat} {pos : String} {aft : Array Edge} {x : Operand} {src dst e : TypeId} {l : List UInt8}
    (hs : P.underlying src = some .string) (hd' : P.underlying dst = some (.slice e)) (he : P.underlying e = some (.int .u8)) (hx : evo f x = some (.string (bs l))) (hd : Nat.blt d n.n = true)
    (k : ∀ b w1 c, b = w.heap.size → Raw w1 b c e l → Upd b w w1 → w1.heap.size = b + 1 → WL P n ops Q rest ((d, .slice (some ⟨b, 0, none⟩) l.length c) :: f) w1) :
    WL P n ops Q (⟨some d, .convert src dst x, ty, pos, aft, none⟩ :: rest) f w := by
  have hrun := Lib.run_convert_string_bytes (P := P) w src dst e (bs l) hs hd' he
  have hsz : (bs l).size = l.length := by simp [bs, ByteArray.size]
  have hge := grownCap_ge w l.length 0 e
  have hu : Upd w.heap.size w (Lib.bytesWorld w e (bs l)) := ⟨rfl, rfl, rfl, by rw [Lib.bytesWorld_size]; omega, fun j hj => by
    rcases Nat.lt_or_ge j w.heap.size with h | h
    · exact Lib.bytesWorld_at_old w e (bs l) j h
    · rw [Array.getElem?_eq_none (by rw [Lib.bytesWorld_size]; omega), Array.getElem?_eq_none h]⟩
  have hcs : (Lib.bytesCells w e (bs l)).size = grownCap w l.length 0 e := by
    unfold Lib.bytesCells
    rw [hsz]
    simp [bs]; omega
  refine WL.run hd (w' := Lib.bytesWorld w e (bs l)) (v := .slice (some ⟨w.heap.size, 0, none⟩) l.length (grownCap w l.length 0 e)) (fun ρ hρ => ?_)
    (k _ _ _ rfl ⟨⟨_, Lib.bytesWorld_at_new w e (bs l), hcs, ?_⟩, hge⟩ hu (Lib.bytesWorld_size w e (bs l)))
  · unfold execOp
    simp only [hρ _ _ hx, Sem.run_bind, hrun, Result.andThen_ok, Sem.run_pure, hsz]
  · unfold Lib.bytesCells
    rw [Array.toList_append, List.take_append_of_le_length (by simp [bs])]
    rw [List.take_of_length_le (by simp [bs])]
    simp [bs, byteVals]
/-- bytes put behind such a row -/
theorem WL.appR {ops : Array Oper} {Q : Exit → Fr → World → Prop} {w : World} {rest : List Oper} {d ty : Nat} {pos : String} {aft : Array Edge} {s x : Operand} {t e : TypeId} {z : Value} {p : Option Addr} {l m : List UInt8} {b c cm by' : Nat}
    (ht : P.underlying t = some (.slice e)) (hi : (P.info? e).map (fun i => (i.zero, i.size, i.bytes)) = some (some z, 1, by')) (hby2 : Nat.ble by' 16 = true) (hzs : z.cells.size = 1)
    (hs : evo f s = some (.slice (some ⟨b, 0, none⟩) l.length c)) (hr : Raw w b c e l) (hx : evo f x = some (.slice p m.length cm)) (hb : BytesAt w p m)
    (hn : l.length + m.length ≤ 1000000000) (hB : b ≤ w.heap.size) (hd : Nat.blt d n.n = true) (hc : m = [] → cm = 0 ∨ p ≠ none)
    (k : ∀ q c' w', BytesAt w' q (l ++ m) → (l ++ m).length ≤ c' → q ≠ none → Below b w w' → WL P n ops Q rest ((d, .slice q (l ++ m).length c') :: f) w') :
    WL P n ops Q (⟨some d, .call ⟨.builtin .append, #[s, x], #[t, t]⟩, ty, pos, aft, none⟩ :: rest) f w := by
  cases hh : P.info? e with
  | none => rw [hh] at hi; cases hi
  | some i =>
    rw [hh] at hi
    simp only [Option.map_some, Option.some.injEq, Prod.mk.injEq] at hi
    obtain ⟨hz, hsize, hby⟩ := hi
    have hby2' : by' ≤ 16 := by simpa using hby2
    obtain ⟨cur, hg, hcs, htk⟩ := hr.cur
    have hle := hr.le
    have elen : (l ++ m).length = l.length + m.length := by simp
    have hbl : (byteVals l).length = l.length := by simp [byteVals]
    have hbm : (byteVals m).length = m.length := by simp [byteVals]
    cases hp : p with
    | none =>
      have hm : m = [] := by
        cases m with
        | nil => rfl
        | cons a r => have := hb.isp (by simp); rw [hp] at this; cases this
      have hc0 : cm = 0 := (hc hm).resolve_right (fun h => h hp)
      subst hp; subst hm; subst hc0
      have h2 : (Builtin.append_ #[t, t] ty #[.slice (some ⟨b, 0, none⟩) l.length c, .slice none 0 0]).run P w = .ok (.slice (some ⟨b, 0, none⟩) l.length c) w := by
        simp [Builtin.append_, run_underlying ht, sizeOf, typeInfo, hh, Builtin.lenOf, Builtin.firstCells, hle, storeCells]
      refine WL.run hd (w' := w) (v := .slice (some ⟨b, 0, none⟩) l.length c) (fun ρ hρ => ?_) ?_
      · unfold execOp
        simp only [resolve, invoke, builtin, Sem.run_bind, Sem.run_pure, Result.andThen_ok, List.map_toArray, List.map_cons, List.map_nil, hρ _ _ hs, hρ _ _ hx, List.length_nil, h2]
      · have := k (some ⟨b, 0, none⟩) c w (by rw [List.append_nil]; exact hr.bytes) (by rw [List.append_nil]; exact hle) (by simp) (Below.refl _ _)
        rw [List.append_nil] at this; exact this
    | some a =>
      subst hp
      have hnews : ∀ j u, (byteVals m)[j]? = some u → w.cell? (a.add j) = some u := fun j y hj => by
        have hj' : j < m.length := by
          rcases Nat.lt_or_ge j m.length with h | h
          · exact h
          · rw [List.getElem?_eq_none (by rw [hbm]; omega)] at hj; cases hj
        have := hb.cells j hj'
        rw [show pA (some a) = a from rfl] at this
        rw [this]
        rw [← hj]; simp [byteVals, hj']
      have h1 : ∀ u ∈ byteVals m, u.oneCell' = true := fun u hu => by simp only [byteVals, List.mem_map] at hu; obtain ⟨y, -, rfl⟩ := hu; rfl
      have hf := run_firstCells_some (P := P) w i.size m.length a m.length cm (byteVals m) (by rw [hsize, hbm]; omega) hnews
      have hbv : byteVals l ++ byteVals m = byteVals (l ++ m) := by simp [byteVals]
      by_cases hroom : l.length + m.length ≤ c
      · have hst := run_storeCells_atT P b l.length e (cur.size, cur.size + 1) (byteVals m) 0 cur w hg (by rw [hbm]; simp only; omega) (by rw [hbm]; omega) h1
        simp only [Nat.add_zero] at hst
        have h2 : (Builtin.append_ #[t, t] ty #[.slice (some ⟨b, 0, none⟩) l.length c, .slice (some a) m.length cm]).run P w =
            .ok (.slice (some ⟨b, 0, none⟩) (l.length + m.length) c) (w.setRow b (cur.toList.take l.length ++ byteVals m ++ cur.toList.drop (l.length + (byteVals m).length)).toArray) := by
          rw [hsize] at hf
          simp [Builtin.append_, run_underlying ht, sizeOf, typeInfo, hh, hsize, Builtin.lenOf, hroom, hf, Addr.add_lit, hst]
        refine WL.run hd (w' := w.setRow b (cur.toList.take l.length ++ byteVals m ++ cur.toList.drop (l.length + (byteVals m).length)).toArray) (v := .slice (some ⟨b, 0, none⟩) (l.length + m.length) c) (fun ρ hρ => ?_) ?_
        · unfold execOp
          simp only [resolve, invoke, builtin, Sem.run_bind, Sem.run_pure, Result.andThen_ok, List.map_toArray, List.map_cons, List.map_nil, hρ _ _ hs, hρ _ _ hx, h2]
        · rw [← elen]
          refine k _ _ _ (bytes_of_take (setRow_heap w b cur _ e _ hg) ?_) (by rw [elen]; exact hroom) (by simp) ⟨rfl, rfl, rfl, by simp [World.setRow], fun j hj => setRow_other w b j _ (by omega)⟩
          rw [htk, ← hbv, elen]
          show (byteVals l ++ byteVals m ++ _).take _ = _
          rw [List.take_append_of_le_length (by simp only [List.length_append]; omega), List.take_of_length_le (by simp only [List.length_append]; omega)]
      · have holds : ∀ j u, (byteVals l)[j]? = some u → w.cell? ((⟨b, 0, none⟩ : Addr).add j) = some u := fun j u hj => by
          have hj' : j < l.length := by
            rcases Nat.lt_or_ge j l.length with h | h
            · exact h
            · rw [List.getElem?_eq_none (by rw [hbl]; omega)] at hj; cases hj
          have := hr.bytes.cells j hj'
          rw [show pA (some (⟨b, 0, none⟩ : Addr)) = ⟨b, 0, none⟩ from rfl] at this
          rw [this, ← hj]; simp [byteVals, hj']
        have hbytes : (l.length + m.length) * i.bytes ≤ 140737488355328 := by
          have : (l.length + m.length) * i.bytes ≤ (l.length + m.length) * 16 := Nat.mul_le_mul_left _ (by omega)
          omega
        have hr2 := run_append_grow (P := P) w t ty e i z ht hh hz ⟨b, 0, none⟩ l.length c (byteVals l) (by rw [hsize, hbl]; omega) holds a m.length cm (byteVals m) (by rw [hsize, hbm]; omega) hnews (by omega) (by omega) (growslice_fits (by omega) hbytes)
        have hge := grownCap_ge w (l.length + m.length) c e
        refine WL.run hd (w' := w.drew.alloc (.cells ((byteVals l).toArray ++ (byteVals m).toArray ++ Builtin.zeroCells z.cells (grownCap w (l.length + m.length) c e - (l.length + m.length))) e)) (fun ρ hρ => ?_) (k (some ⟨w.heap.size, 0, none⟩) (grownCap w (l.length + m.length) c e) _ (bytes_of_take (heap_alloc_new w.drew _) ?_) (by rw [elen]; exact hge) (by simp) ⟨rfl, rfl, rfl, by simp, fun j hj => (Upd.alloc w.drew _).other j (by show j ≠ w.heap.size; omega)⟩)
        · unfold execOp
          simp only [resolve, invoke, builtin, Sem.run_bind, Sem.run_pure, Result.andThen_ok, List.map_toArray, List.map_cons, List.map_nil, hρ _ _ hs, hρ _ _ hx, hr2, elen]
        · simp only [Array.toList_append, List.append_assoc]
          rw [← List.append_assoc, hbv, List.take_append_of_le_length (by simp [byteVals]), List.take_of_length_le (by simp [byteVals])]
end
theorem Own.cat {e : TypeId} {B : Nat} {w : World} {v : Value} {l m : List UInt8} (h : Own e B w v (byteVals l ++ byteVals m)) : Own e B w v (byteVals (l ++ m)) := by
  rw [show byteVals (l ++ m) = byteVals l ++ byteVals m by simp [byteVals]]; exact h

end Go.Proofs.YteaohajihhpnmaaDoor
