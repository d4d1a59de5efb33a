/-
  Scan: the law ScanStructure, walked.
-/
import Derived.Test.YteaohajihhpnmaaDoorScanD
import Derived.Test.YteaohajihhpnmaaDoorScanL
import Derived.Test.YteaohajihhpnmaaDoorFwF
namespace Go.Proofs.YteaohajihhpnmaaDoor
open Go.RowKit

theorem inf9 : (Tryd.prog.info? 9).map (fun i => (i.zero, i.size, i.bytes)) = some (some (.string ⟨#[]⟩), 1, 16) := by kernel_rfl
theorem scan_end (x : Nat) (hx : x ≤ 1114111) (w : World) : Calls Tryd.prog 57 #[.int .i32 (x : Int)] w fun e w' => e = .returned (.bool (isEndR x)) ∧ w = w' := by
  refine W.enter Tryd.func57 rfl Tryd.ntmps57 (Nat.le_of_ble_eq_true rfl) ?_
  refine W.seq ?_
  refine W.reg ?_ -- 0
  refine WL.p (.as rfl) rfl <| WL.nil <| ?_
  refine W.seq ?_
  refine W.reg ?_ -- 1
  refine WL.p (.mv rfl) rfl <| WL.p (.eql rfl rfl) rfl <| WL.p (.mv rfl) rfl <| WL.gd rfl rfl rfl (fun g1 => ?_) (fun g1 => ?_)
  · have g1' := of_decide_eq_false g1
    refine WL.p (.mv rfl) rfl <| WL.gy rfl rfl rfl g1 <| WL.p (.eql rfl rfl) rfl <| WL.p (.pkF rfl g1 rfl) rfl <| WL.p (.as rfl) rfl <| WL.nil <| ?_
    refine W.ret (W.ret1 rfl rfl ?_)
    exact ⟨ret_bool (by unfold isEndR; (apply Bool.eq_iff_iff.2; (try simp only [Bool.and_eq_true, Bool.or_eq_true, Bool.not_eq_true', decide_eq_true_eq, decide_eq_false_iff_not, Bool.false_eq_true, Bool.not_eq_false', false_iff, iff_false, true_iff, iff_true]); omega)), rfl⟩
  · have g1' := of_decide_eq_true g1
    refine WL.gn rfl rfl rfl g1 <| WL.p (.pkT rfl g1 rfl) rfl <| WL.p (.as rfl) rfl <| WL.nil <| ?_
    refine W.ret (W.ret1 rfl rfl ?_)
    exact ⟨ret_bool (by unfold isEndR; (apply Bool.eq_iff_iff.2; (try simp only [Bool.and_eq_true, Bool.or_eq_true, Bool.not_eq_true', decide_eq_true_eq, decide_eq_false_iff_not, Bool.false_eq_true, Bool.not_eq_false', false_iff, iff_false, true_iff, iff_true]); omega)), rfl⟩
theorem lib_fields (l : List UInt8) (w : World) (hl : l.length ≤ 1000000) :
    Calls Tryd.prog 56 #[.string (bs l), .func (.func 57) #[] #[]] w fun e w' => ∃ v, e = .returned v ∧ Below w.heap.size w w' ∧ ∃ A, v = .slice (some ⟨A, 0, none⟩) (fieldsS l []).length (fieldsS l []).length ∧ RowAt strV w' (some ⟨A, 0, none⟩) (fieldsS l []) ∧ w.heap.size ≤ A ∧ A < w'.heap.size := by
  have hb : HasBody Tryd.prog 57 := hb57
  obtain ⟨fn, h1, h2, h3⟩ := hb
  refine (Tryd.strings_FieldsFunc_grows 57 #[] (fun args w => run_callFunc_body h1 h2 h3 args w) isEndR (bs l) w (by simp [bs, ByteArray.size]; omega) ?_).mono ?_
  · intro W x hx _
    exact (scan_end x hx W).mono fun e w' h => ⟨h.1, h.2 ▸ Below.refl _ _⟩
  · rintro e w' ⟨A, h1, h2, h3, h4⟩
    have e1 := goFields_bytes l
    have hlen : (Lib.goFieldsP isEndR (bs l)).length = (fieldsS l []).length := by rw [e1]; simp
    rw [hlen] at h1 h3
    have hown : Own 9 w.heap.size w' (.slice (some ⟨A, 0, none⟩) (fieldsS l []).length (fieldsS l []).length) ((fieldsS l []).map strV) := by
      have e2 : (Lib.goFieldsP isEndR (bs l)).map Value.string = (fieldsS l []).map strV := by rw [e1, List.map_map]; rfl
      rw [e2] at h3
      unfold Own
      rw [List.length_map]; exact h3
    have hA : A < w'.heap.size := (hown.lt A rfl).2
    obtain ⟨p, c, hv, hr, -⟩ := hown.row
    simp only [Value.slice.injEq] at hv
    obtain ⟨rfl, -, rfl⟩ := hv
    exact ⟨_, h1, h4, A, rfl, hr, h2, hA⟩
theorem Own.snocV {α : Type} {V : α → Value} {e : TypeId} {B : Nat} {w : World} {v : Value} {l : List α} {x : Value} (h : Own e B w v (l.map V ++ [x])) (c : α) (hc : x = V c) : Own e B w v ((l ++ [c]).map V) := by
  have : (l ++ [c]).map V = l.map V ++ [x] := by simp [hc]
  rw [this]; exact h
theorem filterMap_take {l : List (List UInt8)} {s : Nat} (h : s < l.length) : (l.take (s + 1)).filterMap lineT = (l.take s).filterMap lineT ++ (lineT (l[s]'h)).toList := by
  rw [List.take_add_one, List.getElem?_eq_getElem h, Option.toList_some, List.filterMap_append]
  cases hx : lineT l[s] <;> simp [hx]
theorem lib_hp (l p : List UInt8) (w : World) : Calls Tryd.prog 58 #[.string (bs l), .string (bs p)] w fun e w' => e = .returned (.bool (Lib.hasPrefix l p)) ∧ w = w' := by
  refine (Tryd.strings_HasPrefix (bs l) (bs p) w).mono fun e w' h => ⟨?_, h.2.symm⟩
  rw [h.1]
  simp [bs]
theorem scan_Structure (p : Option Addr) (l : List UInt8) (c : Nat) (w : World) (hb : BytesAt w p l) (hl : l.length ≤ 1000000) :
    Calls Tryd.prog 30 #[.slice p l.length c] w fun e w' => ∃ v, e = .returned v ∧ Below w.heap.size w w' ∧ ∃ q d, v = .slice q (structS l).length d ∧ RowAt strV w' q (structS l) := by
  obtain ⟨F, hF⟩ : ∃ F, F = fieldsS l [] := ⟨_, rfl⟩
  have hS : structS l = F.filterMap lineT := by rw [hF]; rfl
  have hFl : F.length ≤ l.length := by rw [hF]; have := fieldsS_count l []; rw [if_pos rfl] at this; exact this
  refine W.enter Tryd.func30 rfl Tryd.ntmps30 (Nat.le_of_ble_eq_true rfl) ?_
  have hB0 := Below.refl (w.heap.size) w
  refine W.seq ?_
  refine W.reg ?_ -- 0
  refine WL.p (.as rfl) rfl <| WL.nil <| ?_
  refine W.seq ?_
  refine W.reg ?_ -- 1
  refine WL.p (.as rfl) rfl <| WL.nil <| ?_
  refine W.seq ?_
  refine W.seq ?_
  refine W.reg ?_ -- 2
  refine WL.p (.mv rfl) rfl <| WL.r (Rd.b2s (l := l) Tryd.underlying32 Tryd.underlying5 Tryd.underlying9 rfl (hb)) rfl <| WL.call hb56 rfl rfl ((lib_fields l _ hl)) (fun v w1 hw1 => ?_)
  have hv2 := BytesAt.below hb hw1.1 (fun h0 => hb.lt h0)
  have hB3 := btr hB0 hw1.1
  obtain ⟨A, rfl, hz, hA1, hA2⟩ := hw1.2
  rw [← hF] at hz ⊢
  refine WL.p (.lenS Tryd.underlying46 rfl) rfl <| WL.p (.mv rfl) rfl <| WL.nil <| ?_
  refine W.block ?_
  have hA0 : w.heap.size ≤ A := hA1
  -- loop 1: writes [3, 5, 10, 11, 12, 13, 14, 15, 16, 17, 18, 19, 20, 21, 22, 23, 24, 25]; reads from outside [3, 8, 9, 10]
  refine W.loop (α := Value × Nat) (fun t => [(3, t.1), (8, .slice (some ⟨A, 0, none⟩) F.length F.length), (9, .int .i64 (F.length : Int)), (10, .int .i64 (t.2 : Int))]) (fun t w' => Below w.heap.size w w' ∧ RowAt strV w' (some ⟨A, 0, none⟩) F ∧ Own 9 (A + 1) w' t.1 (((F.take t.2).filterMap lineT).map strV) ∧ t.2 ≤ F.length ∧ A + 1 ≤ w'.heap.size) (fun t => F.length - t.2) ((.slice none 0 0, 0)) ⟨rfl, rfl, rfl, rfl, trivial⟩ (⟨hB3, hz, Own.nil _ _ _, Nat.zero_le _, hA2⟩) (fun t w1 hR => ?_)
  obtain ⟨v, s⟩ := t
  obtain ⟨hT, hz2, hown, hs, hle0⟩ := hR
  simp only at hs hown ⊢
  have hzl : 0 < F.length → (pA (some (⟨A, 0, none⟩ : Addr))).block < A + 1 := fun _ => Nat.lt_succ_self _
  refine W.seq ?_
  refine W.reg ?_ -- 3
  refine WL.p (.lss rfl rfl) rfl <| WL.nil <| ?_
  refine W.seq ?_
  refine W.cond rfl (fun h4 => ?_) (fun h4 => ?_) -- slot 11
  · have h4' := of_decide_eq_true h4
    refine W.skip ?_
    refine W.seq ?_
    refine W.block ?_
    refine W.seq ?_
    have hlt : s < F.length := by omega
    have hfl : ((F.take s).filterMap lineT).length ≤ s := Nat.le_trans (List.length_filterMap_le _ _) (by rw [List.length_take]; omega)
    refine W.reg ?_ -- 4
    refine WL.p (.ixb Tryd.underlying46 Tryd.sizeOf9 rfl rfl (hz2.isp (by omega)) (s) (by omega) (by omega)) rfl <| WL.r (Rd.ldc (Tryd.isAgg9 _) rfl (hz2.cells (s) (by omega))) rfl <| WL.p (.as rfl) rfl <| WL.nil <| ?_
    refine W.cutB 19 (Lib.hasPrefix (F[s]'hlt) [37, 37] || Lib.hasPrefix (F[s]'hlt) [37, 33]) ?_ ?_
    · skip
      refine W.reg ?_ -- 5
      refine WL.p (.mv rfl) rfl <| WL.c1 hb58 rfl rfl ((lib_hp (F[s]'hlt) [37, 37] _)) (fun w5 hw5 => ?_)
      obtain rfl := hw5
      refine WL.p (.mv rfl) rfl <| WL.gd rfl rfl rfl (fun g6 => ?_) (fun g6 => ?_)
      · have g6' := g6
        refine WL.p (.mv rfl) rfl <| WL.gy rfl rfl rfl g6 <| WL.c1 hb58 rfl rfl ((lib_hp (F[s]'hlt) [37, 33] _)) (fun w7 hw7 => ?_)
        obtain rfl := hw7
        refine WL.p (.pkF rfl g6 rfl) rfl <| WL.nil <| ?_
        exact ⟨⟨lk_b rfl (by simp_all), by repeat (first | exact Le.refl _ | refine Le.cons rfl ?_)⟩, rfl⟩
      · have g6' := g6
        refine WL.gn rfl rfl rfl g6 <| WL.p (.pkT rfl g6 rfl) rfl <| WL.nil <| ?_
        exact ⟨⟨lk_b rfl (by simp_all), by repeat (first | exact Le.refl _ | refine Le.cons rfl ?_)⟩, rfl⟩
    refine W.cond rfl (fun h8 => ?_) (fun h8 => ?_) -- slot 19
    · have h8' := h8
      have hl2 : lineT (F[s]'hlt) = some ((F[s]'hlt).drop 2) := if_pos (by assumption)
      have hx2 : 2 ≤ (F[s]'hlt).length := by
        rcases Nat.lt_or_ge (F[s]'hlt).length 2 with h | h
        · rw [lineT_iff, dif_neg (by omega)] at hl2; cases hl2
        · exact h
      refine W.reg ?_ -- 6
      refine WL.p (.mv rfl) rfl <| WL.p (.mv rfl) rfl <| WL.p (.slF Tryd.underlying9 rfl rfl 2 rfl (by omega)) rfl <| WL.bsl (ps := _) Tryd.underlying46 Tryd.sizeOf9 Tryd.zeroValue9 rfl rfl rfl rfl rfl (by simp only [put1, List.map, List.zip, List.zipWith, List.set, List.replicate] <;> rfl) rfl (fun b9 wb9 eb9 hkb9 hub9 hsb9 => ?_)
      have hle11 := Nat.le_trans hle0 hub9.size
      have ho10 := Own.new hown eb9 hub9
      have hvl13 := fun h0 => eb9 ▸ hz2.lt h0
      have hv12 := RowAt.upd hz2 hub9 (fun h0 => Nat.ne_of_lt (hvl13 h0))
      have hB14 := Upd.below hT (by rw [eb9]; exact hT.size) hub9
      have hgeb9 : w.heap.size ≤ b9 := by rw [eb9]; exact hT.size
      refine WL.appm Tryd.underlying46 inf9 rfl rfl rfl ho10 rfl hkb9 rfl (by rw [List.length_map]; omega) (hle11) rfl (fun v15 w16 how16 hbw16 hgw16 => ?_)
      have hv17 := RowAt.below hv12 hbw16 hzl
      have hB18 := Below.trans hB14 (hbw16.mono (by omega))
      have hle19 := Nat.le_trans hle11 hbw16.size
      refine WL.p (.as rfl) rfl <| WL.nil <| ?_
      refine W.reg ?_ -- 7
      refine WL.p (.iis (((s + 1 : Nat) : Int)) (.add rfl rfl (i64w (by omega))) (by omega)) rfl <| WL.p (.mv rfl) rfl <| WL.nil <| ?_
      first
      | exact ⟨(_, s + 1), ⟨rfl, rfl, rfl, rfl, trivial⟩, ⟨hB18, hv17, (by rw [filterMap_take hlt, hl2]; exact Own.snocV how16 _ rfl), by ((try simp only) <;> omega), hle19⟩, by ((try simp only) <;> omega)⟩
      | exact ⟨(_, s + 1), ⟨rfl, rfl, rfl, rfl, trivial⟩, ⟨hB18, hv17, (by rw [filterMap_take hlt, hl2, Option.toList_none, List.append_nil]; exact how16), by ((try simp only) <;> omega), hle19⟩, by ((try simp only) <;> omega)⟩
    · have h8' := h8
      have hl2 : lineT (F[s]'hlt) = none := if_neg (bF (by assumption))
      refine W.skip ?_
      refine W.reg ?_ -- 7
      refine WL.p (.iis (((s + 1 : Nat) : Int)) (.add rfl rfl (i64w (by omega))) (by omega)) rfl <| WL.p (.mv rfl) rfl <| WL.nil <| ?_
      first
      | exact ⟨(_, s + 1), ⟨rfl, rfl, rfl, rfl, trivial⟩, ⟨hT, hz2, (by rw [filterMap_take hlt, hl2]; exact Own.snocV hown _ rfl), by ((try simp only) <;> omega), hle0⟩, by ((try simp only) <;> omega)⟩
      | exact ⟨(_, s + 1), ⟨rfl, rfl, rfl, rfl, trivial⟩, ⟨hT, hz2, (by rw [filterMap_take hlt, hl2, Option.toList_none, List.append_nil]; exact hown), by ((try simp only) <;> omega), hle0⟩, by ((try simp only) <;> omega)⟩
  · have h4' := of_decide_eq_false h4
    refine W.exit ?_ -- 0
    refine W.seq ?_
    refine W.reg ?_ -- 8
    refine WL.p (.mv rfl) rfl <| WL.p (.as rfl) rfl <| WL.nil <| ?_
    refine W.ret (W.ret1 rfl rfl ?_)
    obtain rfl : s = F.length := by omega
    rw [List.take_length, ← hS] at hown
    obtain ⟨q, d, rfl, hr, -⟩ := hown.row
    exact ⟨_, rfl, hT, q, d, rfl, hr⟩

theorem ref_Structure (p : Option Addr) (l : List UInt8) (c : Nat) (w : World) (hb : BytesAt w p l) (hc : l.length ≤ c) (hl : l.length ≤ 1000000) :
    Calls Tryd.prog 31 #[.slice p l.length c] w fun e w' => ∃ v, e = .returned v ∧ Below w.heap.size w w' ∧ ∃ q d, v = .slice q (structS l).length d ∧ RowAt strV w' q (structS l) := by
  refine W.enter Tryd.func31 rfl Tryd.ntmps31 (Nat.le_of_ble_eq_true rfl) ?_
  have hB0 := Below.refl (w.heap.size) w
  refine W.seq ?_
  refine W.reg ?_ -- 0
  refine WL.p (.as rfl) rfl <| WL.nil <| ?_
  refine W.seq ?_
  refine W.reg ?_ -- 1
  refine WL.p (.as rfl) rfl <| WL.nil <| ?_
  refine W.seq ?_
  refine W.reg ?_ -- 2
  refine WL.p (.as rfl) rfl <| WL.nil <| ?_
  refine W.seq ?_
  refine W.seq ?_
  refine W.reg ?_ -- 3
  refine WL.p (.as rfl) rfl <| WL.nil <| ?_
  refine W.block ?_
  -- loop 1: writes [3, 4, 5, 6, 7, 8, 9, 10, 11, 12, 13, 14, 15, 16, 17, 18, 19, 20, 21, 22, 23, 24, 25, 26, 27, 28, 29, 30, 31, 32, 33, 34, 35, 36, 37, 38, 39, 40, 41, 42, 43, 44, 45, 46, 47, 48, 49, 50, 51, 52, 53, 54, 55, 56, 57, 58, 59, 60, 61, 62, 63, 64, 65, 66, 67]; reads from outside [0, 3, 4, 5]
  refine W.loop (α := Value × List (List UInt8) × Nat × Nat) (fun t => [(0, .slice p l.length c), (3, t.1), (4, .int .i64 (t.2.2.1 : Int)), (5, .int .i64 (t.2.2.2 : Int))]) (fun t w' => Below w.heap.size w w' ∧ BytesAt w' p l ∧ Own 9 w.heap.size w' t.1 (t.2.1.map strV) ∧ t.2.2.1 ≤ t.2.2.2 ∧ t.2.2.2 ≤ l.length + 1 ∧ t.2.1 ++ (fieldsS (l.drop t.2.2.2) (curA l t.2.2.1 t.2.2.2)).filterMap lineT = structS l ∧ w.heap.size ≤ w'.heap.size ∧ t.2.1.length ≤ t.2.2.2 ∧ (t.2.2.2 = l.length + 1 → t.2.2.1 = l.length + 1)) (fun t => l.length + 1 - t.2.2.2) ((.slice none 0 0, [], 0, 0)) ⟨rfl, rfl, rfl, rfl, trivial⟩ (⟨hB0, hb, Own.nil _ _ _, Nat.le_refl _, Nat.zero_le _, rfl, Nat.le_refl _, Nat.le_refl _, fun h => by simp only at h; omega⟩) (fun t w1 hR => ?_)
  obtain ⟨v, o, f, i⟩ := t
  obtain ⟨hT, ha2, hown, hfi, hil, heq, hle0, hol, hlast⟩ := hR
  simp only at hown hfi hil heq hol hlast ⊢
  have hal : 0 < l.length → (pA p).block < w.heap.size := fun h0 => hb.lt h0
  refine W.seq ?_
  refine W.seq ?_
  refine W.reg ?_ -- 4
  refine WL.p (.mv rfl) rfl <| WL.p (.mv rfl) rfl <| WL.p (.lenS Tryd.underlying32 rfl) rfl <| WL.p (.leq rfl rfl) rfl <| WL.nil <| ?_
  refine W.cond rfl (fun h1 => ?_) (fun h1 => ?_) -- slot 9
  · have h1' := of_decide_eq_true h1
    refine W.skip ?_
    refine W.seq ?_
    refine W.block ?_
    refine W.seq ?_
    refine W.cutB 29 (contB l i) ?_ ?_
    · skip
      refine W.reg ?_ -- 6
      refine WL.p (.mv rfl) rfl <| WL.p (.mv rfl) rfl <| WL.p (.lenS Tryd.underlying32 rfl) rfl <| WL.p (.lss rfl rfl) rfl <| WL.p (.mv rfl) rfl <| WL.gd rfl rfl rfl (fun g2 => ?_) (fun g2 => ?_)
      · have g2' := of_decide_eq_true g2
        refine WL.p (.mv rfl) rfl <| WL.gy rfl rfl rfl g2 <| WL.p (.mv rfl) rfl <| WL.gy rfl rfl rfl g2 <| WL.p (.ixb Tryd.underlying32 Tryd.sizeOf5 rfl rfl (ha2.isp (by omega)) (i) (by omega) (by omega)) rfl <| WL.gy rfl rfl rfl g2 <| WL.r (Rd.ldc (Tryd.isAgg5 _) rfl (ha2.cells (i) (by omega))) rfl <| WL.gy rfl rfl rfl g2 <| WL.p (.neq rfl rfl) rfl <| WL.p (.pkT rfl g2 rfl) rfl <| WL.p (.mv rfl) rfl <| WL.gd rfl rfl rfl (fun g3 => ?_) (fun g3 => ?_)
        · have g3' := ndT g3
          refine WL.p (.mv rfl) rfl <| WL.gy rfl rfl rfl g3 <| WL.p (.mv rfl) rfl <| WL.gy rfl rfl rfl g3 <| WL.p (.ixb Tryd.underlying32 Tryd.sizeOf5 rfl rfl (ha2.isp (by omega)) (i) (by omega) (by omega)) rfl <| WL.gy rfl rfl rfl g3 <| WL.r (Rd.ldc (Tryd.isAgg5 _) rfl (ha2.cells (i) (by omega))) rfl <| WL.gy rfl rfl rfl g3 <| WL.p (.neq rfl rfl) rfl <| WL.p (.pkT rfl g3 rfl) rfl <| WL.nil <| ?_
          exact ⟨⟨lk_b rfl (by (by_cases hq2 : i < l.length) <;> (unfold contB lineEnd; first | (exfalso; omega) | (rw [getElem!_pos l i hq2, Bool.not_or]; (apply Bool.eq_iff_iff.2; (try simp only [Bool.and_eq_true, Bool.or_eq_true, Bool.not_eq_true', decide_eq_true_eq, decide_eq_false_iff_not, Bool.false_eq_true, Bool.not_eq_false', false_iff, iff_false, true_iff, iff_true]); omega)) | (rw [decide_eq_false hq2]; simp_all; done))), by repeat (first | exact Le.refl _ | refine Le.cons rfl ?_)⟩, rfl⟩
        · have g3' := ndF g3
          refine WL.gn rfl rfl rfl g3 <| WL.gn rfl rfl rfl g3 <| WL.gn rfl rfl rfl g3 <| WL.gn rfl rfl rfl g3 <| WL.p (.pkF rfl g3 rfl) rfl <| WL.nil <| ?_
          exact ⟨⟨lk_b rfl (by (by_cases hq2 : i < l.length) <;> (unfold contB lineEnd; first | (exfalso; omega) | (rw [getElem!_pos l i hq2, Bool.not_or]; (apply Bool.eq_iff_iff.2; (try simp only [Bool.and_eq_true, Bool.or_eq_true, Bool.not_eq_true', decide_eq_true_eq, decide_eq_false_iff_not, Bool.false_eq_true, Bool.not_eq_false', false_iff, iff_false, true_iff, iff_true]); omega)) | (rw [decide_eq_false hq2]; simp_all; done))), by repeat (first | exact Le.refl _ | refine Le.cons rfl ?_)⟩, rfl⟩
      · have g2' := of_decide_eq_false g2
        refine WL.gn rfl rfl rfl g2 <| WL.gn rfl rfl rfl g2 <| WL.gn rfl rfl rfl g2 <| WL.gn rfl rfl rfl g2 <| WL.p (.pkF rfl g2 rfl) rfl <| WL.p (.mv rfl) rfl <| WL.gn rfl rfl rfl rfl <| WL.gn rfl rfl rfl rfl <| WL.gn rfl rfl rfl rfl <| WL.gn rfl rfl rfl rfl <| WL.gn rfl rfl rfl rfl <| WL.p (.pkF rfl rfl rfl) rfl <| WL.nil <| ?_
        exact ⟨⟨lk_b rfl (by (by_cases hq2 : i < l.length) <;> (unfold contB lineEnd; first | (exfalso; omega) | (rw [getElem!_pos l i hq2, Bool.not_or]; (apply Bool.eq_iff_iff.2; (try simp only [Bool.and_eq_true, Bool.or_eq_true, Bool.not_eq_true', decide_eq_true_eq, decide_eq_false_iff_not, Bool.false_eq_true, Bool.not_eq_false', false_iff, iff_false, true_iff, iff_true]); omega)) | (rw [decide_eq_false hq2]; simp_all; done))), by repeat (first | exact Le.refl _ | refine Le.cons rfl ?_)⟩, rfl⟩
    refine W.cond rfl (fun h4 => ?_) (fun h4 => ?_) -- slot 29
    · have h4' := h4
      obtain ⟨hi, he⟩ := contB_t (by assumption)
      rw [seg_go hfi hi he] at heq
      refine W.exit ?_ -- 1
      refine W.reg ?_ -- 5
      refine WL.p (.mv rfl) rfl <| WL.p (.iis (((i + 1 : Nat) : Int)) (.add rfl rfl (i64w (by omega))) (by omega)) rfl <| WL.p (.as rfl) rfl <| WL.nil <| ?_
      first
      | exact ⟨(_, o, f, i + 1), ⟨rfl, rfl, rfl, rfl, trivial⟩, ⟨hT, ha2, hown, by ((try simp only) <;> omega), by ((try simp only) <;> omega), heq, hle0, by ((try simp only) <;> omega), fun h => by simp only at h; omega⟩, by ((try simp only) <;> omega)⟩
      | exact ⟨(_, o ++ [_], i + 1, i + 1), ⟨rfl, rfl, rfl, rfl, trivial⟩, ⟨hT, ha2, Own.snocV hown _ rfl, by ((try simp only) <;> omega), by ((try simp only) <;> omega), (by rw [← heq]; simp [curA]), hle0, by simp only [List.length_append, List.length_cons, List.length_nil]; omega, fun h => h⟩, by ((try simp only) <;> omega)⟩
      | exact ⟨(_, o, i + 1, i + 1), ⟨rfl, rfl, rfl, rfl, trivial⟩, ⟨hT, ha2, hown, by ((try simp only) <;> omega), by ((try simp only) <;> omega), (by rw [← heq]; simp [curA]), hle0, by ((try simp only) <;> omega), fun h => h⟩, by ((try simp only) <;> omega)⟩
    · have h4' := h4
      rw [seg_end (contB_f (by assumption) (by omega)), curA_line (by omega)] at heq
      refine W.skip ?_
      refine W.seq ?_
      refine W.cutB 56 (segB l f i) ?_ ?_
      · skip
        refine W.reg ?_ -- 7
        refine WL.p (.mv rfl) rfl <| WL.p (.mv rfl) rfl <| WL.p (.iis ((i : Int) - (f : Int)) (.sub rfl rfl (i64w (by omega))) (by omega)) rfl <| WL.p (.geq rfl rfl) rfl <| WL.p (.mv rfl) rfl <| WL.gd rfl rfl rfl (fun g5 => ?_) (fun g5 => ?_)
        · have g5' := of_decide_eq_true g5
          refine WL.p (.mv rfl) rfl <| WL.gy rfl rfl rfl g5 <| WL.p (.mv rfl) rfl <| WL.gy rfl rfl rfl g5 <| WL.p (.ixb Tryd.underlying32 Tryd.sizeOf5 rfl rfl (ha2.isp (by omega)) (f) (by omega) (by omega)) rfl <| WL.gy rfl rfl rfl g5 <| WL.r (Rd.ldc (Tryd.isAgg5 _) rfl (ha2.cells (f) (by omega))) rfl <| WL.gy rfl rfl rfl g5 <| WL.p (.eql rfl rfl) rfl <| WL.p (.pkT rfl g5 rfl) rfl <| WL.p (.mv rfl) rfl <| WL.gd rfl rfl rfl (fun g6 => ?_) (fun g6 => ?_)
          · have g6' := of_decide_eq_true g6
            refine WL.p (.mv rfl) rfl <| WL.gy rfl rfl rfl g6 <| WL.p (.mv rfl) rfl <| WL.gy rfl rfl rfl g6 <| WL.p (.iis (((f + 1 : Nat) : Int)) (.add rfl rfl (i64w (by omega))) (by omega)) rfl <| WL.gy rfl rfl rfl g6 <| WL.p (.ixb Tryd.underlying32 Tryd.sizeOf5 rfl rfl (ha2.isp (by omega)) (f + 1) (by omega) (by omega)) rfl <| WL.gy rfl rfl rfl g6 <| WL.r (Rd.ldc (Tryd.isAgg5 _) rfl (ha2.cells (f + 1) (by omega))) rfl <| WL.gy rfl rfl rfl g6 <| WL.p (.eql rfl rfl) rfl <| WL.gy rfl rfl rfl g6 <| WL.p (.mv rfl) rfl <| WL.gd rfl rfl rfl (fun g7 => ?_) (fun g7 => ?_)
            · have g7' := of_decide_eq_false g7
              refine WL.p (.mv rfl) rfl <| WL.gy rfl rfl rfl g7 <| WL.p (.mv rfl) rfl <| WL.gy rfl rfl rfl g7 <| WL.p (.iis (((f + 1 : Nat) : Int)) (.add rfl rfl (i64w (by omega))) (by omega)) rfl <| WL.gy rfl rfl rfl g7 <| WL.p (.ixb Tryd.underlying32 Tryd.sizeOf5 rfl rfl (ha2.isp (by omega)) (f + 1) (by omega) (by omega)) rfl <| WL.gy rfl rfl rfl g7 <| WL.r (Rd.ldc (Tryd.isAgg5 _) rfl (ha2.cells (f + 1) (by omega))) rfl <| WL.gy rfl rfl rfl g7 <| WL.p (.eql rfl rfl) rfl <| WL.gy rfl rfl rfl g6 <| WL.p (.pkF rfl g7 rfl) rfl <| WL.p (.pkT rfl g6 rfl) rfl <| WL.nil <| ?_
              exact ⟨⟨lk_b rfl (by (by_cases hq : f + 2 ≤ i) <;> (unfold segB; first | (exfalso; omega) | (rw [getElem!_pos l f (by omega), getElem!_pos l (f + 1) (by omega)]; (apply Bool.eq_iff_iff.2; (try simp only [Bool.and_eq_true, Bool.or_eq_true, Bool.not_eq_true', decide_eq_true_eq, decide_eq_false_iff_not, Bool.false_eq_true, Bool.not_eq_false', false_iff, iff_false, true_iff, iff_true]); omega)) | (rw [decide_eq_false hq]; simp_all; done))), by repeat (first | exact Le.refl _ | refine Le.cons rfl ?_)⟩, rfl⟩
            · have g7' := of_decide_eq_true g7
              refine WL.gn rfl rfl rfl g7 <| WL.gn rfl rfl rfl g7 <| WL.gn rfl rfl rfl g7 <| WL.gn rfl rfl rfl g7 <| WL.gn rfl rfl rfl g7 <| WL.gy rfl rfl rfl g6 <| WL.p (.pkT rfl g7 rfl) rfl <| WL.p (.pkT rfl g6 rfl) rfl <| WL.nil <| ?_
              exact ⟨⟨lk_b rfl (by (by_cases hq : f + 2 ≤ i) <;> (unfold segB; first | (exfalso; omega) | (rw [getElem!_pos l f (by omega), getElem!_pos l (f + 1) (by omega)]; (apply Bool.eq_iff_iff.2; (try simp only [Bool.and_eq_true, Bool.or_eq_true, Bool.not_eq_true', decide_eq_true_eq, decide_eq_false_iff_not, Bool.false_eq_true, Bool.not_eq_false', false_iff, iff_false, true_iff, iff_true]); omega)) | (rw [decide_eq_false hq]; simp_all; done))), by repeat (first | exact Le.refl _ | refine Le.cons rfl ?_)⟩, rfl⟩
          · have g6' := of_decide_eq_false g6
            refine WL.gn rfl rfl rfl g6 <| WL.gn rfl rfl rfl g6 <| WL.gn rfl rfl rfl g6 <| WL.gn rfl rfl rfl g6 <| WL.gn rfl rfl rfl g6 <| WL.gn rfl rfl rfl g6 <| WL.gu rfl rfl rfl <| WL.gu rfl rfl rfl <| WL.gu rfl rfl rfl <| WL.gu rfl rfl rfl <| WL.gu rfl rfl rfl <| WL.gu rfl rfl rfl <| WL.gn rfl rfl rfl g6 <| WL.p (.pkF rfl g6 rfl) rfl <| WL.nil <| ?_
            exact ⟨⟨lk_b rfl (by (by_cases hq : f + 2 ≤ i) <;> (unfold segB; first | (exfalso; omega) | (rw [getElem!_pos l f (by omega), getElem!_pos l (f + 1) (by omega)]; (apply Bool.eq_iff_iff.2; (try simp only [Bool.and_eq_true, Bool.or_eq_true, Bool.not_eq_true', decide_eq_true_eq, decide_eq_false_iff_not, Bool.false_eq_true, Bool.not_eq_false', false_iff, iff_false, true_iff, iff_true]); omega)) | (rw [decide_eq_false hq]; simp_all; done))), by repeat (first | exact Le.refl _ | refine Le.cons rfl ?_)⟩, rfl⟩
        · have g5' := of_decide_eq_false g5
          refine WL.gn rfl rfl rfl g5 <| WL.gn rfl rfl rfl g5 <| WL.gn rfl rfl rfl g5 <| WL.gn rfl rfl rfl g5 <| WL.p (.pkF rfl g5 rfl) rfl <| WL.p (.mv rfl) rfl <| WL.gn rfl rfl rfl rfl <| WL.gn rfl rfl rfl rfl <| WL.gn rfl rfl rfl rfl <| WL.gn rfl rfl rfl rfl <| WL.gn rfl rfl rfl rfl <| WL.gn rfl rfl rfl rfl <| WL.gn rfl rfl rfl rfl <| WL.gu rfl rfl rfl <| WL.gu rfl rfl rfl <| WL.gu rfl rfl rfl <| WL.gu rfl rfl rfl <| WL.gu rfl rfl rfl <| WL.gu rfl rfl rfl <| WL.gn rfl rfl rfl rfl <| WL.p (.pkF rfl rfl rfl) rfl <| WL.nil <| ?_
          exact ⟨⟨lk_b rfl (by (by_cases hq : f + 2 ≤ i) <;> (unfold segB; first | (exfalso; omega) | (rw [getElem!_pos l f (by omega), getElem!_pos l (f + 1) (by omega)]; (apply Bool.eq_iff_iff.2; (try simp only [Bool.and_eq_true, Bool.or_eq_true, Bool.not_eq_true', decide_eq_true_eq, decide_eq_false_iff_not, Bool.false_eq_true, Bool.not_eq_false', false_iff, iff_false, true_iff, iff_true]); omega)) | (rw [decide_eq_false hq]; simp_all; done))), by repeat (first | exact Le.refl _ | refine Le.cons rfl ?_)⟩, rfl⟩
      refine W.cond rfl (fun h8 => ?_) (fun h8 => ?_) -- slot 56
      · have h8' := h8
        rw [if_pos (by assumption)] at heq
        have hfi2 : f + 2 ≤ i := by
          have := show segB l f i = true by assumption
          unfold segB at this
          simp only [Bool.and_eq_true, decide_eq_true_eq] at this
          exact this.1
        refine W.reg ?_ -- 8
        refine WL.p (.mv rfl) rfl <| WL.p (.mv rfl) rfl <| WL.p (.mv rfl) rfl <| WL.p (.iis (((f + 2 : Nat) : Int)) (.add rfl rfl (i64w (by omega))) (by omega)) rfl <| WL.p (.mv rfl) rfl <| WL.p (.slb Tryd.underlying32 Tryd.sizeOf5 rfl rfl rfl  (f + 2) (i) (rfl) (rfl) (hfi2) (by omega)) rfl <| WL.r (Rd.b2sPart Tryd.underlying32 Tryd.underlying5 Tryd.underlying9 rfl rfl ha2 hfi2 (by omega) hc) rfl <| WL.bsl (ps := _) Tryd.underlying46 Tryd.sizeOf9 Tryd.zeroValue9 rfl rfl rfl rfl rfl (by simp only [put1, List.map, List.zip, List.zipWith, List.set, List.replicate] <;> rfl) rfl (fun b9 wb9 eb9 hkb9 hub9 hsb9 => ?_)
        have hle11 := Nat.le_trans hle0 hub9.size
        have ho10 := Own.new hown eb9 hub9
        have hvl13 := fun h0 => eb9 ▸ ha2.lt h0
        have hv12 := BytesAt.upd ha2 hub9 (fun h0 => Nat.ne_of_lt (hvl13 h0))
        have hB14 := Upd.below hT (by rw [eb9]; exact hT.size) hub9
        have hgeb9 : w.heap.size ≤ b9 := by rw [eb9]; exact hT.size
        refine WL.appm Tryd.underlying46 inf9 rfl rfl rfl ho10 rfl hkb9 rfl (by rw [List.length_map]; omega) (hle11) rfl (fun v15 w16 how16 hbw16 hgw16 => ?_)
        have hv17 := BytesAt.below hv12 hbw16 hal
        have hB18 := Below.trans hB14 (hbw16.mono (Nat.le_refl _))
        have hle19 := Nat.le_trans hle11 hbw16.size
        refine WL.p (.as rfl) rfl <| WL.nil <| ?_
        refine W.reg ?_ -- 9
        refine WL.p (.mv rfl) rfl <| WL.p (.iis (((i + 1 : Nat) : Int)) (.add rfl rfl (i64w (by omega))) (by omega)) rfl <| WL.p (.as rfl) rfl <| WL.nil <| ?_
        refine W.reg ?_ -- 5
        refine WL.p (.mv rfl) rfl <| WL.p (.iis (((i + 1 : Nat) : Int)) (.add rfl rfl (i64w (by omega))) (by omega)) rfl <| WL.p (.as rfl) rfl <| WL.nil <| ?_
        first
        | exact ⟨(_, o, f, i + 1), ⟨rfl, rfl, rfl, rfl, trivial⟩, ⟨hB18, hv17, how16, by ((try simp only) <;> omega), by ((try simp only) <;> omega), heq, hle19, by ((try simp only) <;> omega), fun h => by simp only at h; omega⟩, by ((try simp only) <;> omega)⟩
        | exact ⟨(_, o ++ [_], i + 1, i + 1), ⟨rfl, rfl, rfl, rfl, trivial⟩, ⟨hB18, hv17, Own.snocV how16 _ rfl, by ((try simp only) <;> omega), by ((try simp only) <;> omega), (by rw [← heq]; simp [curA]), hle19, by simp only [List.length_append, List.length_cons, List.length_nil]; omega, fun h => h⟩, by ((try simp only) <;> omega)⟩
        | exact ⟨(_, o, i + 1, i + 1), ⟨rfl, rfl, rfl, rfl, trivial⟩, ⟨hB18, hv17, how16, by ((try simp only) <;> omega), by ((try simp only) <;> omega), (by rw [← heq]; simp [curA]), hle19, by ((try simp only) <;> omega), fun h => h⟩, by ((try simp only) <;> omega)⟩
      · have h8' := h8
        rw [if_neg (bF (by assumption))] at heq
        refine W.skip ?_
        refine W.reg ?_ -- 9
        refine WL.p (.mv rfl) rfl <| WL.p (.iis (((i + 1 : Nat) : Int)) (.add rfl rfl (i64w (by omega))) (by omega)) rfl <| WL.p (.as rfl) rfl <| WL.nil <| ?_
        refine W.reg ?_ -- 5
        refine WL.p (.mv rfl) rfl <| WL.p (.iis (((i + 1 : Nat) : Int)) (.add rfl rfl (i64w (by omega))) (by omega)) rfl <| WL.p (.as rfl) rfl <| WL.nil <| ?_
        first
        | exact ⟨(_, o, f, i + 1), ⟨rfl, rfl, rfl, rfl, trivial⟩, ⟨hT, ha2, hown, by ((try simp only) <;> omega), by ((try simp only) <;> omega), heq, hle0, by ((try simp only) <;> omega), fun h => by simp only at h; omega⟩, by ((try simp only) <;> omega)⟩
        | exact ⟨(_, o ++ [_], i + 1, i + 1), ⟨rfl, rfl, rfl, rfl, trivial⟩, ⟨hT, ha2, Own.snocV hown _ rfl, by ((try simp only) <;> omega), by ((try simp only) <;> omega), (by rw [← heq]; simp [curA]), hle0, by simp only [List.length_append, List.length_cons, List.length_nil]; omega, fun h => h⟩, by ((try simp only) <;> omega)⟩
        | exact ⟨(_, o, i + 1, i + 1), ⟨rfl, rfl, rfl, rfl, trivial⟩, ⟨hT, ha2, hown, by ((try simp only) <;> omega), by ((try simp only) <;> omega), (by rw [← heq]; simp [curA]), hle0, by ((try simp only) <;> omega), fun h => h⟩, by ((try simp only) <;> omega)⟩
  · have h1' := of_decide_eq_false h1
    refine W.exit ?_ -- 0
    refine W.seq ?_
    refine W.reg ?_ -- 10
    refine WL.p (.mv rfl) rfl <| WL.p (.as rfl) rfl <| WL.nil <| ?_
    refine W.ret (W.ret1 rfl rfl ?_)
    obtain rfl : i = l.length + 1 := by omega
    have hf1 := hlast rfl
    have hfin : curA l f (l.length + 1) = [] := by unfold curA; rw [List.drop_eq_nil_of_le (by omega)]; exact List.take_nil
    rw [List.drop_eq_nil_of_le (by omega), hfin] at heq
    rw [show o = structS l by rw [← heq]; simp [fieldsS]] at hown
    obtain ⟨q, d, rfl, hr, -⟩ := hown.row
    exact ⟨_, rfl, hT, q, d, rfl, hr⟩
theorem ref_Texts (p : Option Addr) (l : List (List UInt8)) (c : Nat) (q : Option Addr) (v : List (List UInt8)) (d : Nat) (w : World) (ha : RowAt strV w p l) (hb : RowAt strV w q v) (hl : l.length ≤ 1000000000) (hv : v.length ≤ 1000000000) :
    Calls Tryd.prog 29 #[.slice p l.length c, .slice q v.length d] w fun e w' => e = .returned (.bool (decide (l = v))) ∧ Drew w w' := by
  refine W.enter Tryd.func29 rfl Tryd.ntmps29 (Nat.le_of_ble_eq_true rfl) ?_
  refine W.seq ?_
  refine W.reg ?_ -- 0
  refine WL.p (.as rfl) rfl <| WL.nil <| ?_
  refine W.seq ?_
  refine W.seq ?_
  refine W.reg ?_ -- 1
  refine WL.p (.mv rfl) rfl <| WL.p (.lenS Tryd.underlying46 rfl) rfl <| WL.p (.mv rfl) rfl <| WL.p (.lenS Tryd.underlying46 rfl) rfl <| WL.p (.neq rfl rfl) rfl <| WL.nil <| ?_
  refine W.cond rfl (fun h1 => ?_) (fun h1 => ?_) -- slot 10
  · have h1' := ndT h1
    refine W.seq ?_
    refine W.reg ?_ -- 2
    refine WL.p (.as rfl) rfl <| WL.nil <| ?_
    refine W.ret (W.ret1 rfl rfl ?_)
    exact ⟨ret_bool (decide_eq_false (fun e => by subst e; omega)).symm, Drew.refl _⟩
  · have h1' := ndF h1
    refine W.skip ?_
    refine W.seq ?_
    refine W.seq ?_
    refine W.reg ?_ -- 3
    refine WL.p (.as rfl) rfl <| WL.nil <| ?_
    refine W.block ?_
    have hlen : l.length = v.length := by omega
    -- loop 1: writes [4, 5, 11, 12, 13, 14, 15, 16, 17, 18, 19, 20, 21, 22, 23, 24, 25]; reads from outside [0, 1, 5]
    refine W.loop (α := Nat) (fun t => [(0, .slice p l.length c), (1, .slice q v.length d), (5, .int .i64 (t : Int))]) (fun t w' => Drew w w' ∧ t ≤ l.length ∧ l.take t = v.take t) (fun t => l.length - t) (0) ⟨rfl, rfl, rfl, trivial⟩ (⟨Drew.refl _, Nat.zero_le _, by simp⟩) (fun t w1 hR => ?_)
    obtain ⟨hD, ht, he⟩ := hR
    have ha1 := ha.drew hD
    have hb1 := hb.drew hD
    refine W.seq ?_
    refine W.seq ?_
    refine W.reg ?_ -- 4
    refine WL.p (.mv rfl) rfl <| WL.p (.mv rfl) rfl <| WL.p (.lenS Tryd.underlying46 rfl) rfl <| WL.p (.lss rfl rfl) rfl <| WL.nil <| ?_
    refine W.cond rfl (fun h2 => ?_) (fun h2 => ?_) -- slot 14
    · have h2' := of_decide_eq_true h2
      refine W.skip ?_
      refine W.seq ?_
      refine W.block ?_
      refine W.seq ?_
      refine W.regQ mixed (by kernel_rfl) ?_ -- 6
      refine WQ.p (.mv rfl) rfl <| WQ.p (.mv rfl) rfl <| WQ.p (.ixb Tryd.underlying46 Tryd.sizeOf9 rfl rfl (ha1.isp (by omega)) (t) (by omega) (by omega)) rfl <| WQ.r (fun m => Rd.ldc (Tryd.isAgg9 _) rfl ((ha1.drewN m).cells (t) (by omega))) rfl <| WQ.p (.mv rfl) rfl <| WQ.p (.mv rfl) rfl <| WQ.p (.ixb Tryd.underlying46 Tryd.sizeOf9 rfl rfl (hb1.isp (by omega)) (t) (by omega) (by omega)) rfl <| WQ.r (fun m => Rd.ldc (Tryd.isAgg9 _) rfl ((hb1.drewN m).cells (t) (by omega))) rfl <| WQ.p (.nes rfl rfl) rfl <| WQ.nil (fun w3 dw3 => ?_)
      have hv4 := ha1.drew dw3
      have hv5 := hb1.drew dw3
      refine W.cond rfl (fun h6 => ?_) (fun h6 => ?_) -- slot 25
      · have h6' := ndT h6
        refine W.seq ?_
        refine W.reg ?_ -- 7
        refine WL.p (.as rfl) rfl <| WL.nil <| ?_
        refine W.ret (W.ret1 rfl rfl ?_)
        first
        | exact ⟨ret_bool (decide_eq_false (fun e => by subst e; first | omega | contradiction)).symm, hD.trans dw3⟩
        | exact ⟨ret_bool (decide_eq_true (by rw [List.take_of_length_le (by omega), List.take_of_length_le (by omega)] at he; exact he)).symm, hD⟩
      · have h6' := ndF h6
        refine W.skip ?_
        refine W.reg ?_ -- 5
        refine WL.p (.mv rfl) rfl <| WL.p (.iis (((t + 1 : Nat) : Int)) (.add rfl rfl (i64w (by omega))) (by omega)) rfl <| WL.p (.as rfl) rfl <| WL.nil <| ?_
        exact ⟨t + 1, ⟨rfl, rfl, rfl, trivial⟩, ⟨hD.trans dw3, by omega, by rw [List.take_add_one, List.take_add_one, he, List.getElem?_eq_getElem (show t < l.length by omega), List.getElem?_eq_getElem (show t < v.length by omega), show l[t]'(by omega) = v[t]'(by omega) by assumption]⟩, by omega⟩
    · have h2' := of_decide_eq_false h2
      refine W.exit ?_ -- 0
      refine W.seq ?_
      refine W.reg ?_ -- 8
      refine WL.p (.as rfl) rfl <| WL.nil <| ?_
      refine W.ret (W.ret1 rfl rfl ?_)
      first
      | exact ⟨ret_bool (decide_eq_false (fun e => by subst e; first | omega | contradiction)).symm, hD.trans DREW⟩
      | exact ⟨ret_bool (decide_eq_true (by rw [List.take_of_length_le (by omega), List.take_of_length_le (by omega)] at he; exact he)).symm, hD⟩

theorem ref_Texts_same (p : Option Addr) (l : List (List UInt8)) (c : Nat) (q : Option Addr) (d : Nat) (w : World) (ha : RowAt strV w p l) (hb : RowAt strV w q l) (hl : l.length ≤ 1000000000) :
    Calls Tryd.prog 29 #[.slice p l.length c, .slice q l.length d] w fun e w' => e = .returned (.bool true) ∧ Drew w w' :=
  (ref_Texts p l c q l d w ha hb hl hl).mono fun _ _ h => ⟨h.1.trans (ret_bool (decide_eq_true rfl)), h.2⟩
theorem structS_len (l : List UInt8) : (structS l).length ≤ l.length := by
  have h := fieldsS_count l []
  rw [if_pos rfl] at h
  exact Nat.le_trans (List.length_filterMap_le _ _) h
theorem law_ScanStructure (p : Option Addr) (l : List UInt8) (c : Nat) (w : World) (hb : BytesAt w p l) (hc : l.length ≤ c) (hnb : l = [] → c = 0 ∨ p ≠ none) :
    Calls Tryd.prog 13 #[.slice p l.length c] w fun e w' => e = .returned (.bool true) ∧ Below w.heap.size w w' := by
  have hsl := structS_len l
  refine W.enter Tryd.func13 rfl Tryd.ntmps13 (Nat.le_of_ble_eq_true rfl) ?_
  have hB0 := Below.refl (w.heap.size) w
  refine W.seq ?_
  refine W.reg ?_ -- 0
  refine WL.p (.as rfl) rfl <| WL.nil <| ?_
  refine W.seq ?_
  refine W.seq ?_
  refine W.reg ?_ -- 1
  refine WL.p (.mv rfl) rfl <| WL.p (.lenS Tryd.underlying32 rfl) rfl <| WL.p (.gtr rfl rfl) rfl <| WL.nil <| ?_
  refine W.cond rfl (fun h1 => ?_) (fun h1 => ?_) -- slot 5
  · have h1' := of_decide_eq_true h1
    refine W.seq ?_
    refine W.reg ?_ -- 2
    refine WL.c1 hb23 rfl rfl ((answers04 _)) (fun w2 hw2 => ?_)
    have hv3 := BytesAt.below hb hw2 (fun h0 => hb.lt h0)
    have hB4 := btr hB0 hw2
    refine WL.p (.as rfl) rfl <| WL.nil <| ?_
    refine W.ret (W.ret1 rfl rfl ?_)
    exact ⟨rfl, hB4⟩
  · have h1' := of_decide_eq_false h1
    refine W.skip ?_
    refine W.seq ?_
    refine W.reg ?_ -- 3
    refine WL.c1 hb23 rfl rfl ((answers04 _)) (fun w5 hw5 => ?_)
    have hv6 := BytesAt.below hb hw5 (fun h0 => hb.lt h0)
    have hB7 := btr hB0 hw5
    refine WL.p (.mv rfl) rfl <| WL.gy rfl rfl rfl rfl <| WL.bsl0 Tryd.underlying32 Tryd.sizeOf5 rfl (fun b8 wb8 eb8 hob8 hub8 hsb8 => ?_)
    have hvl10 := fun h0 => eb8 ▸ hv6.lt h0
    have hv9 := BytesAt.upd hv6 hub8 (fun h0 => Nat.ne_of_lt (hvl10 h0))
    have hB11 := Upd.below hB7 (by rw [eb8]; exact hB7.size) hub8
    have hgeb8 : w.heap.size ≤ b8 := by rw [eb8]; exact hB7.size
    have hob8 := hob8 b8 (Nat.le_refl _)
    have hleb8 : b8 ≤ wb8.heap.size := by omega
    refine WL.gy rfl rfl rfl rfl <| WL.p (.mv rfl) rfl <| WL.gy rfl rfl rfl rfl <| WL.appB Tryd.underlying32 inf5 rfl rfl rfl hob8 rfl hv9 (by simp only [byteVals_len, List.length_nil]; omega) (hleb8) rfl (hnb) (fun v12 w13 how13 hbw13 hgw13 => ?_)
    have hv14 := BytesAt.below hv9 hbw13 hvl10
    have hB15 := Below.trans hB11 (hbw13.mono (hgeb8))
    have hle16 := Nat.le_trans hleb8 hbw13.size
    obtain ⟨pq, cq, eq, hq, hBq, hcq, hnq⟩ := Own.bytesC (l := l) how13
    subst eq
    refine WL.gy rfl rfl rfl rfl <| WL.call hb30 rfl rfl ((scan_Structure _ l _ _ hq (by omega))) (fun v w17 hw17 => ?_)
    have hv18 := BytesAt.below hv14 hw17.1 (fun h0 => hv14.lt h0)
    have hv19 := BytesAt.below hq hw17.1 (fun h0 => hq.lt h0)
    have hB20 := btr hB15 hw17.1
    obtain ⟨q1, d1, rfl, hs1⟩ := hw17.2
    refine WL.gy rfl rfl rfl rfl <| WL.p (.mv rfl) rfl <| WL.gy rfl rfl rfl rfl <| WL.call hb31 rfl rfl ((ref_Structure _ l _ _ hv18 hc (by omega))) (fun v w21 hw21 => ?_)
    have hv22 := BytesAt.below hv18 hw21.1 (fun h0 => hv18.lt h0)
    have hv23 := BytesAt.below hv19 hw21.1 (fun h0 => hv19.lt h0)
    have hv24 := RowAt.below hs1 hw21.1 (fun h0 => hs1.lt h0)
    have hB25 := btr hB20 hw21.1
    obtain ⟨q2, d2, rfl, hs2⟩ := hw21.2
    refine WL.gy rfl rfl rfl rfl <| WL.c1 hb29 rfl rfl ((ref_Texts_same q1 (structS l) d1 q2 d2 _ hv24 hs2 (by omega))) (fun w26 hw26 => ?_)
    have hv27 := hv22.drew hw26
    have hv28 := hv23.drew hw26
    have hv29 := hv24.drew hw26
    have hv30 := hs2.drew hw26
    have hB31 := Drew.below hB25 hw26
    refine WL.p (.pkT rfl rfl rfl) rfl <| WL.p (.as rfl) rfl <| WL.nil <| ?_
    refine W.ret (W.ret1 rfl rfl ?_)
    exact ⟨rfl, hB31⟩

end Go.Proofs.YteaohajihhpnmaaDoor
