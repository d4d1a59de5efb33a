/-
  Stacks: rolling.
-/
import Derived.Test.YtnjalolknhepdaaFwO
import Derived.Test.YtnjalolknhepdaaStkB
namespace Go.Proofs.Ytnjalolknhepdaa
open Go.RowKit

/-- room for n more of a slice that is nil -/
theorem lib_Grow (j : Nat) (hj : j ≤ 10000000) (w : World) :
    Calls Try.prog 40 #[.slice none 0 0, .int .i64 (j : Int)] w fun e w' => ∃ v, e = .returned v ∧ Below w.heap.size w w' ∧ OwnM objL 39 w.heap.size w' v [] := by
  refine W.enter Try.func40 rfl Try.ntmps40 (Nat.le_of_ble_eq_true rfl) ?_
  have hB0 := Below.refl (w.heap.size) w
  refine W.seq ?_
  refine W.reg ?_ -- 0
  refine WL.p (.as rfl) rfl <| WL.nil <| ?_
  refine W.seq ?_
  refine W.seq ?_
  refine W.reg ?_ -- 1
  refine WL.p (.mv rfl) rfl <| WL.p (.lss rfl rfl) rfl <| WL.nil <| ?_
  refine W.cond rfl (fun h1 => ?_) (fun h1 => ?_) -- slot 6
  · have h1' := of_decide_eq_true h1
    omega
  · have h1' := of_decide_eq_false h1
    refine W.skip ?_
    refine W.seq ?_
    refine W.seq ?_
    refine W.reg ?_ -- 3
    refine WL.p (.mv rfl) rfl <| WL.p (.mv rfl) rfl <| WL.p (.capS Try.underlying25 rfl) rfl <| WL.p (.mv rfl) rfl <| WL.p (.lenS Try.underlying25 rfl) rfl <| WL.p (.sub rfl rfl (i64w (by omega))) rfl <| WL.p (.sub rfl rfl (i64w (by omega))) rfl <| WL.p (.as rfl) rfl <| WL.nil <| ?_
    refine W.seq ?_
    refine W.reg ?_ -- 4
    refine WL.p (.mv rfl) rfl <| WL.p (.gtr rfl rfl) rfl <| WL.nil <| ?_
    refine W.cond rfl (fun h2 => ?_) (fun h2 => ?_) -- slot 16
    · have h2' := of_decide_eq_true h2
      refine W.reg ?_ -- 5
      refine WL.p (.mv rfl) rfl <| WL.p (.mv rfl) rfl <| WL.p (.capS Try.underlying25 rfl) rfl <| WL.p (.slmT Try.underlying25 Try.sizeOf39 rfl rfl  (0) (rfl) (by omega)) rfl <| WL.p (.mv rfl) rfl <| WL.gzM (L := objL) j Try.underlying25 Try.underlying3 inf39 rfl rfl (by first | rfl | exact congrArg some (by rw [pPartM_zero])) (by first | rfl | exact congrArg some (congrArg (Value.int .i64) (by omega))) (by omega) hj rfl (fun cg wg hcg hmg hog hbg => ?_)
      refine WL.p (.mv rfl) rfl <| WL.p (.lenS Try.underlying25 rfl) rfl <| WL.p (.slmT Try.underlying25 Try.sizeOf39 rfl rfl  (0) (rfl) (by omega)) rfl <| WL.p (.as rfl) rfl <| WL.nil <| ?_
      refine W.seq ?_
      refine W.reg ?_ -- 6
      refine WL.p (.mv rfl) rfl <| WL.p (.as rfl) rfl <| WL.nil <| ?_
      refine W.ret (W.ret1 rfl rfl ?_)
      first
      | exact ⟨_, rfl, hbg, by rw [pPartM_zero]; exact hog⟩
      | exact ⟨_, rfl, hB0, OwnM.nil _ _ _ _⟩
    · have h2' := of_decide_eq_false h2
      refine W.skip ?_
      refine W.seq ?_
      refine W.reg ?_ -- 6
      refine WL.p (.mv rfl) rfl <| WL.p (.as rfl) rfl <| WL.nil <| ?_
      refine W.ret (W.ret1 rfl rfl ?_)
      first
      | exact ⟨_, rfl, hbg, by rw [pPartM_zero]; exact hog⟩
      | exact ⟨_, rfl, hB0, OwnM.nil _ _ _ _⟩

/-- a slice of objects, as a value -/
def sV (x : Option Addr × List ObjV × Nat) : Value := .slice x.1 x.2.1.length x.2.2
def catS (ls : List (Option Addr × List ObjV × Nat)) : List ObjV := ls.flatMap fun x => x.2.1
theorem catS_take (ls : List (Option Addr × List ObjV × Nat)) (s : Nat) (h : s < ls.length) : catS (ls.take (s + 1)) = catS (ls.take s) ++ (ls.getD s (none, [], 0)).2.1 := by
  unfold catS
  rw [List.take_add_one, List.getElem?_eq_getElem h, Option.toList_some, List.flatMap_append, List.getD_eq_getElem?_getD, List.getElem?_eq_getElem h]
  simp
theorem catS_le (ls : List (Option Addr × List ObjV × Nat)) (s : Nat) : (catS (ls.take s)).length ≤ (catS ls).length := by
  have : catS ls = catS (ls.take s) ++ catS (ls.drop s) := by
    unfold catS; rw [← List.flatMap_append, List.take_append_drop]
  rw [this, List.length_append]; omega
theorem lib_Concat (p : Option Addr) (ls : List (Option Addr × List ObjV × Nat)) (c : Nat) (w : World) (h : RowAt sV w p ls) (hr : ∀ x ∈ ls, RowM objL w x.1 x.2.1 ∧ (x.2.1 = [] → x.2.2 = 0 ∨ x.1 ≠ none)) (hn : ls.length ≤ 1000) (hl : (catS ls).length ≤ 10000000) :
    Calls Try.prog 31 #[.slice p ls.length c] w fun e w' => ∃ v, e = .returned v ∧ Below w.heap.size w w' ∧ OwnM objL 39 w.heap.size w' v (catS ls) := by
  have hzl : 0 < ls.length → (pA p).block < w.heap.size := fun h0 => h.lt h0
  refine W.enter Try.func31 rfl Try.ntmps31 (Nat.le_of_ble_eq_true rfl) ?_
  have hB0 := Below.refl (w.heap.size) w
  refine W.seq ?_
  refine W.reg ?_ -- 0
  refine WL.p (.as rfl) rfl <| WL.nil <| ?_
  refine W.seq ?_
  refine W.reg ?_ -- 1
  refine WL.p (.as rfl) rfl <| WL.nil <| ?_
  refine W.seq ?_
  refine W.seq ?_
  refine W.reg ?_ -- 2
  refine WL.p (.mv rfl) rfl <| WL.p (.lenS Try.underlying73 rfl) rfl <| WL.p (.mv rfl) rfl <| WL.nil <| ?_
  refine W.block ?_
  -- loop 1: writes [3, 5, 11, 12, 13, 14, 15, 16, 17, 18, 19, 20, 21, 22]; reads from outside [3, 9, 10, 11]
  refine W.loop (α := Nat) (fun t => [(0, .slice p ls.length c), (3, .int .i64 ((catS (ls.take t)).length : Int)), (9, .slice p ls.length c), (10, .int .i64 (ls.length : Int)), (11, .int .i64 (t : Int))]) (fun t w' => w = w' ∧ t ≤ ls.length) (fun t => ls.length - t) (0) ⟨rfl, rfl, rfl, rfl, rfl, trivial⟩ (⟨rfl, Nat.zero_le _⟩) (fun t w1 hR => ?_)
  obtain ⟨s, rfl⟩ : ∃ s, s = t := ⟨t, rfl⟩
  obtain ⟨rfl, hs⟩ := hR
  have hle1 := catS_le ls s
  have hle2 := catS_le ls (s + 1)
  refine W.seq ?_
  refine W.reg ?_ -- 3
  refine WL.p (.lss rfl rfl) rfl <| WL.nil <| ?_
  refine W.seq ?_
  refine W.cond rfl (fun h1 => ?_) (fun h1 => ?_) -- slot 12
  · have h1' := of_decide_eq_true h1
    refine W.skip ?_
    refine W.seq ?_
    refine W.block ?_
    refine W.seq ?_
    refine W.reg ?_ -- 4
    refine WL.p (.ixb Try.underlying73 Try.sizeOf25 rfl rfl (h.isp (by omega)) (s) (by omega) (by omega)) rfl <| WL.r (Rd.ldc (Try.isAgg25 _) rfl ((h.cells (s) (by omega)).trans (show some (sV (ls[s]'(by omega))) = some (.slice (ls.getD s (none, [], 0)).1 (ls.getD s (none, [], 0)).2.1.length (ls.getD s (none, [], 0)).2.2) by rw [List.getD_eq_getElem?_getD, List.getElem?_eq_getElem (by omega)]; rfl))) rfl <| WL.p (.as rfl) rfl <| WL.nil <| ?_
    refine W.seq ?_
    have htk := congrArg List.length (catS_take ls s (by omega))
    rw [List.length_append] at htk
    refine W.reg ?_ -- 5
    refine WL.p (.mv rfl) rfl <| WL.p (.mv rfl) rfl <| WL.p (.lenS Try.underlying25 rfl) rfl <| WL.p (.iis (((catS (ls.take (s + 1))).length : Int)) (.add rfl rfl (i64w (by omega))) (by omega)) rfl <| WL.p (.as rfl) rfl <| WL.nil <| ?_
    refine W.seq ?_
    refine W.reg ?_ -- 6
    refine WL.p (.mv rfl) rfl <| WL.p (.lss rfl rfl) rfl <| WL.nil <| ?_
    refine W.cond rfl (fun h2 => ?_) (fun h2 => ?_) -- slot 20
    · have h2' := of_decide_eq_true h2
      omega
    · have h2' := of_decide_eq_false h2
      refine W.skip ?_
      refine W.reg ?_ -- 8
      refine WL.p (.iis (((s + 1 : Nat) : Int)) (.add rfl rfl (i64w (by omega))) (by omega)) rfl <| WL.p (.mv rfl) rfl <| WL.nil <| ?_
      exact ⟨s + 1, ⟨rfl, rfl, rfl, rfl, rfl, trivial⟩, ⟨rfl, by ((try simp only) <;> omega)⟩, by ((try simp only) <;> omega)⟩
  · have h1' := of_decide_eq_false h1
    refine W.exit ?_ -- 0
    refine W.seq ?_
    obtain rfl : s = ls.length := by omega
    rw [List.take_length] at *
    refine W.reg ?_ -- 9
    refine WL.p (.mv rfl) rfl <| WL.call hb40 rfl rfl ((lib_Grow (catS ls).length hl _)) (fun v w3 hw3 => ?_)
    have hv4 := RowAt.below h hw3.1 (fun h0 => h.lt h0)
    have hB5 := btr hB0 hw3.1
    have ho := hw3.2
    refine WL.p (.as rfl) rfl <| WL.nil <| ?_
    refine W.seq ?_
    refine W.seq ?_
    refine W.reg ?_ -- 10
    refine WL.p (.mv rfl) rfl <| WL.p (.lenS Try.underlying73 rfl) rfl <| WL.p (.mv rfl) rfl <| WL.nil <| ?_
    refine W.block ?_
    -- loop 2: writes [6, 8, 27, 28, 29, 30, 31, 32, 33, 34]; reads from outside [6, 25, 26, 27]
    refine W.loop (α := Value × Nat) (fun t => [(6, t.1), (25, .slice p ls.length c), (26, .int .i64 (ls.length : Int)), (27, .int .i64 (t.2 : Int))]) (fun t w' => Below w.heap.size w w' ∧ RowAt sV w' p ls ∧ OwnM objL 39 w.heap.size w' t.1 (catS (ls.take t.2)) ∧ t.2 ≤ ls.length) (fun t => ls.length - t.2) ((_, 0)) ⟨rfl, rfl, rfl, rfl, trivial⟩ (⟨hB5, hv4, ho, Nat.zero_le _⟩) (fun t w1 hR => ?_)
    obtain ⟨v, s⟩ := t
    obtain ⟨hT, hz2, hown, hs⟩ := hR
    simp only at hs hown ⊢
    have hle2 := catS_le ls (s + 1)
    obtain ⟨x, hx⟩ : ∃ x, x = ls.getD s (none, [], 0) := ⟨_, rfl⟩
    have hxx : RowM objL w x.1 x.2.1 ∧ (x.2.1 = [] → x.2.2 = 0 ∨ x.1 ≠ none) := by
      by_cases h0 : s < ls.length
      · refine hr x ?_
        rw [hx, List.getD_eq_getElem?_getD, List.getElem?_eq_getElem h0]; exact List.getElem_mem h0
      · rw [hx, List.getD_eq_getElem?_getD, List.getElem?_eq_none (by omega)]
        exact ⟨RowM.nil w, fun _ => .inl rfl⟩
    have hnx := hxx.2
    have he := hxx.1.below hT (fun h0 => hxx.1.lt h0)
    refine W.seq ?_
    refine W.reg ?_ -- 11
    refine WL.p (.lss rfl rfl) rfl <| WL.nil <| ?_
    refine W.seq ?_
    refine W.cond rfl (fun h6 => ?_) (fun h6 => ?_) -- slot 28
    · have h6' := of_decide_eq_true h6
      refine W.skip ?_
      refine W.seq ?_
      refine W.block ?_
      refine W.seq ?_
      have htk := catS_take ls s (by omega)
      rw [← hx] at htk
      rw [htk, List.length_append] at hle2
      refine W.reg ?_ -- 12
      refine WL.p (.ixb Try.underlying73 Try.sizeOf25 rfl rfl (hz2.isp (by omega)) (s) (by omega) (by omega)) rfl <| WL.r (Rd.ldc (Try.isAgg25 _) rfl ((hz2.cells (s) (by omega)).trans (show some (sV (ls[s]'(by omega))) = some (.slice x.1 x.2.1.length x.2.2) by rw [hx, List.getD_eq_getElem?_getD, List.getElem?_eq_getElem (by omega)]; rfl))) rfl <| WL.p (.as rfl) rfl <| WL.nil <| ?_
      refine W.reg ?_ -- 13
      refine WL.p (.mv rfl) rfl <| WL.p (.mv rfl) rfl <| WL.appM Try.underlying25 inf39 rfl rfl rfl hown rfl he (by omega) (hT.size) rfl (hnx) (fun v7 w8 how8 hbw8 hgw8 hfw8 => ?_)
      have hv9 := RowAt.below hz2 hbw8 hzl
      have hB10 := Below.trans hT (hbw8.mono (Nat.le_refl _))
      refine WL.p (.as rfl) rfl <| WL.nil <| ?_
      refine W.reg ?_ -- 14
      refine WL.p (.iis (((s + 1 : Nat) : Int)) (.add rfl rfl (i64w (by omega))) (by omega)) rfl <| WL.p (.mv rfl) rfl <| WL.nil <| ?_
      exact ⟨(_, s + 1), ⟨rfl, rfl, rfl, rfl, trivial⟩, ⟨hB10, hv9, by rw [htk]; exact how8, by ((try simp only) <;> omega)⟩, by ((try simp only) <;> omega)⟩
    · have h6' := of_decide_eq_false h6
      refine W.exit ?_ -- 2
      refine W.seq ?_
      refine W.reg ?_ -- 15
      refine WL.p (.mv rfl) rfl <| WL.p (.as rfl) rfl <| WL.nil <| ?_
      refine W.ret (W.ret1 rfl rfl ?_)
      obtain rfl : s = ls.length := by omega
      rw [List.take_length] at hown
      exact ⟨_, rfl, hT, hown⟩

theorem OwnM.rowp {α : Type} {L : Lay α} {e : TypeId} {B n c : Nat} {w : World} {p : Option Addr} {l : List α} (h : OwnM L e B w (.slice p n c) l) : RowM L w p l := by
  obtain ⟨p', c', hv, hr, -⟩ := h.row
  cases hv
  exact hr
def rotL (k : Nat) (l : List ObjV) : List ObjV := l.drop (l.length - k) ++ l.take (l.length - k)
def rollL (j : Nat) (r : Int) (l : List ObjV) : List ObjV := l.take (l.length - j) ++ rotL (r % j).toNat (l.drop (l.length - j))
def rollO (j r : Int) (l : List ObjV) (un : Int) : List ObjV := if checkE j l un = 0 then rollL j.toNat r l else l
def rollS (p : Option Addr) (c k a : Nat) (l : List ObjV) : List (Option Addr × List ObjV × Nat) :=
  [(pPartM 8 (pPartM 8 p c k) (c - k) a, (l.drop k).drop a, c - k - a), (pPartM 8 (pPartM 8 p c k) (c - k) 0, (l.drop k).take a, c - k)]
theorem roll_rows {w : World} {p : Option Addr} {l : List ObjV} {c k a : Nat} (h : RowM objL w p l) (hlc : l.length ≤ c) (hk : k < l.length) (ha : a ≤ l.length - k) :
    ∀ x ∈ rollS p c k a l, RowM objL w x.1 x.2.1 ∧ (x.2.1 = [] → x.2.2 = 0 ∨ x.1 ≠ none) := by
  have hp := h.isp (by omega)
  have h1 : RowM objL w (pPartM 8 p c k) (l.drop k) := h.partF (by omega) hlc
  have hl1 : (l.drop k).length = l.length - k := List.length_drop
  have hne : pPartM 8 p c k ≠ none := by rw [hp]; unfold pPartM; split <;> simp
  intro x hx
  simp only [rollS, List.mem_cons, List.not_mem_nil, or_false] at hx
  rcases hx with rfl | rfl
  · refine ⟨h1.partF (by omega) (by omega), fun _ => .inr ?_⟩
    cases hq : pPartM 8 p c k with
    | none => exact absurd hq hne
    | some a => simp only; unfold pPartM; split <;> simp
  · exact ⟨h1.partT a (by omega) (by omega), fun _ => .inr (by rw [pPartM_zero]; exact hne)⟩
theorem tmod_turn (r : Int) (j : Nat) (hj : 0 < j) : (r.tmod j + j).tmod j = r % j := by
  have h1 : (r.tmod j).natAbs < j := by
    rw [Int.natAbs_tmod]; exact Nat.mod_lt _ hj
  rw [Int.tmod_eq_emod_of_nonneg (by omega), Int.add_emod_right]
  rcases Int.le_total 0 r with h | h
  · rw [Int.tmod_eq_emod_of_nonneg h, Int.emod_emod]
  · obtain ⟨s, rfl⟩ : ∃ s : Int, r = -s := ⟨-r, by omega⟩
    rw [Int.neg_tmod, Int.tmod_eq_emod_of_nonneg (by omega)]
    rw [Int.emod_def s, Int.neg_sub, Int.sub_eq_add_neg, Int.add_comm, Int.add_mul_emod_self_left]
theorem roll_same {j r : Int} {l : List ObjV} {un : Int} (h : checkE j l un ≠ 0 ∨ j = 0) : rollO j r l un = l := by
  unfold rollO
  rcases h with h | rfl
  · rw [if_neg h]
  · split
    · unfold rollL rotL; simp
    · rfl
theorem rollO_eq {p : Option Addr} {c k j a : Nat} {r un : Int} {l : List ObjV} (hce : checkE (j : Int) l un = 0) (hk : k = l.length - j) (hjl : j ≤ l.length) (ha : a = (r % (j : Int)).toNat) (haj : a < j) :
    rollO j r l un = l.take k ++ catS (rollS p c k (j - a) l) := by
  unfold rollO
  rw [if_pos hce, Int.toNat_natCast]
  unfold rollL rotL
  simp only [rollS, catS, List.flatMap_cons, List.flatMap_nil, List.append_nil, List.length_drop]
  rw [← hk, ← ha, show l.length - k - a = j - a by omega]
theorem stk_Roll (b : Nat) (v : Value) (most ov un : Int) (l : List ObjV) (j r : Int) (w : World) (h : StackOk w b v most ov un l) (hj : j ≤ 9223372036854775807) (_hr0 : -9223372036854775808 ≤ r ∧ r ≤ 9223372036854775807) (hl : l.length ≤ 10000000) (hu : un ≠ 0) :
    Calls Try.prog 15 #[.pointer (some ⟨b, 0, none⟩), .int .i64 j, .int .i64 r] w fun e w' => e = .returned (.int .i64 (checkE j l un)) ∧ StackOk w' b v most ov un (rollO j r l un) ∧ KeepB w.heap.size (b :: v.ownBlock.toList) w w' := by
  obtain ⟨p', c', hv, hrow, -, hlc, hnil, -⟩ := h.own.row
  have hown := h.own
  have hr := h.blk
  have hbl := hr.lt
  subst hv
  refine W.enter Try.func15 rfl Try.ntmps15 (Nat.le_of_ble_eq_true rfl) ?_
  have hB0 := KeepB.refl w.heap.size (b :: (Value.slice p' l.length c').ownBlock.toList) w
  refine W.seq ?_
  refine W.reg ?_ -- 0
  refine WL.p (.as rfl) rfl <| WL.nil <| ?_
  refine W.seq ?_
  refine W.seq ?_
  refine W.reg ?_ -- 1
  refine WL.p (.mv rfl) rfl <| WL.p (.mv rfl) rfl <| WL.c1 hb30 rfl rfl ((stk_check b _ most ov un l j _ ⟨hr, hown⟩)) (fun w1 hw1 => ?_)
  obtain rfl := hw1
  refine WL.p (.as rfl) rfl <| WL.nil <| ?_
  refine W.cutB 19 (decide (checkE j l un ≠ 0 ∨ j = 0)) ?_ ?_
  · skip
    refine W.reg ?_ -- 2
    refine WL.p (.mv rfl) rfl <| WL.p (.neq rfl rfl) rfl <| WL.p (.mv rfl) rfl <| WL.gd rfl rfl rfl (fun g2 => ?_) (fun g2 => ?_)
    · have g2' := ndF g2
      refine WL.p (.mv rfl) rfl <| WL.gy rfl rfl rfl g2 <| WL.p (.eql rfl rfl) rfl <| WL.p (.pkF rfl g2 rfl) rfl <| WL.nil <| ?_
      exact ⟨⟨lk_b rfl (by simp_all), by repeat (first | exact Le.refl _ | refine Le.cons rfl ?_)⟩, rfl⟩
    · have g2' := ndT g2
      refine WL.gn rfl rfl rfl g2 <| WL.p (.pkT rfl g2 rfl) rfl <| WL.nil <| ?_
      exact ⟨⟨lk_b rfl (by simp_all), by repeat (first | exact Le.refl _ | refine Le.cons rfl ?_)⟩, rfl⟩
  refine W.cond rfl (fun h3 => ?_) (fun h3 => ?_) -- slot 19
  · have h3' := of_decide_eq_true h3
    refine W.seq ?_
    refine W.reg ?_ -- 3
    refine WL.p (.mv rfl) rfl <| WL.p (.as rfl) rfl <| WL.nil <| ?_
    refine W.ret (W.ret1 rfl rfl ?_)
    first
    | exact ⟨rvE rfl, ⟨hr, by rw [roll_same (by assumption)]; exact hown⟩, hB0⟩
    | exact ⟨rvE (by rw [hce]), ⟨(hr).upd huc (by have := (hown.lt gc (by rw [hgc]; rfl)).1; omega), by rw [rollO_eq (p := p') (c := c') hce hk (by omega) ha haj.2]; exact hoc⟩, KeepB.trans hB0 (KeepB.of_mem huc (List.mem_cons_of_mem _ (Option.mem_toList.2 (by rw [hgc]; rfl))))⟩
  · have h3' := of_decide_eq_false h3
    have hce : checkE j l un = 0 := by by_cases hq : checkE j l un = 0 <;> simp_all
    obtain ⟨hn0, hnl⟩ := checkE_ok hu hce
    obtain ⟨j, rfl⟩ := Int.eq_ofNat_of_zero_le hn0
    have hj0 : 0 < j := by rcases Nat.eq_zero_or_pos j with h | h <;> simp_all
    obtain ⟨k, hk⟩ : ∃ k, k = l.length - j := ⟨_, rfl⟩
    obtain ⟨a, ha⟩ : ∃ a, a = (r % (j : Int)).toNat := ⟨_, rfl⟩
    have haj : (a : Int) = r % (j : Int) ∧ a < j := ⟨by have := Int.emod_nonneg r (show (j : Int) ≠ 0 by omega); omega, by have := Int.emod_lt_of_pos r (show (0 : Int) < (j : Int) by omega); omega⟩
    have htm := tmod_turn r j hj0
    have htb : (r.tmod j).natAbs < j := by rw [Int.natAbs_tmod]; exact Nat.mod_lt _ hj0
    refine W.skip ?_
    refine W.seq ?_
    refine W.regQ mixed (by kernel_rfl) ?_ -- 4
    refine WQ.p (.mv rfl) rfl <| WQ.p (.nck rfl) rfl <| WQ.p (.fa Try.underlying57 rfl Try.sizeOf25 (by decide) rfl) rfl <| WQ.r (fun m => Rd.ld (Try.isAgg25 _) rfl hr rfl) rfl <| WQ.p (.mv rfl) rfl <| WQ.p (.nck rfl) rfl <| WQ.p (.fa Try.underlying57 rfl Try.sizeOf25 (by decide) rfl) rfl <| WQ.r (fun m => Rd.ld (Try.isAgg25 _) rfl hr rfl) rfl <| WQ.p (.lenS Try.underlying25 rfl) rfl <| WQ.p (.mv rfl) rfl <| WQ.p (.iis ((k : Int)) (.sub rfl rfl (i64w (by omega))) (by omega)) rfl <| WQ.p (.slmF Try.underlying25 Try.sizeOf39 rfl rfl  (k) (rfl) (by omega)) rfl <| WQ.p (.as rfl) rfl <| WQ.nil (fun w4 dw4 => ?_)
    have ho5 := OwnM.drew hown dw4
    have hk6 := hr.drew dw4
    have hB7 := KeepB.trans hB0 (KeepB.of_drew dw4)
    refine W.seq ?_
    refine W.reg ?_ -- 5
    refine WL.p (.mv rfl) rfl <| WL.p (.mv rfl) rfl <| WL.p (.rem rfl rfl (by omega) rfl) rfl <| WL.p (.mv rfl) rfl <| WL.p (.add rfl rfl (i64w (by omega))) rfl <| WL.p (.mv rfl) rfl <| WL.p (.iis ((a : Int)) (.rem rfl rfl (by omega) rfl) (by rw [haj.1]; exact htm)) rfl <| WL.p (.as rfl) rfl <| WL.nil <| ?_
    refine W.seq ?_
    refine W.regT 10 mixed (by kernel_rfl) (fun w8 dw8 => ?_) -- 6
    have ho9 := OwnM.drew ho5 dw8
    have hk10 := hk6.drew dw8
    have hB11 := KeepB.trans hB7 (KeepB.of_drew dw8)
    refine WS.p (.mv rfl) rfl <| WS.p (.mv rfl) rfl <| WS.p (.mv rfl) rfl <| WS.p (.iis (((j - a : Nat) : Int)) (.sub rfl rfl (i64w (by omega))) (by omega)) rfl <| WS.p (.slmF Try.underlying25 Try.sizeOf39 rfl rfl  (j - a) (rfl) (by omega)) rfl <| WS.p (.mv rfl) rfl <| WS.p (.mv rfl) rfl <| WS.p (.mv rfl) rfl <| WS.p (.iis (((j - a : Nat) : Int)) (.sub rfl rfl (i64w (by omega))) (by omega)) rfl <| WS.p (.slmT Try.underlying25 Try.sizeOf39 rfl rfl  (j - a) (rfl) (by omega)) rfl <| WS.nil ?_
    refine WL.bsl (ps := _) Try.underlying73 Try.sizeOf25 Try.zeroValue25 rfl rfl rfl rfl rfl (by simp only [put1, List.map, List.zip, List.zipWith, List.set, List.replicate] <;> rfl) rfl (fun b12 wb12 eb12 hkb12 hub12 hsb12 => ?_)
    have ho13 := OwnM.new ho9 eb12 hub12
    have hl15 : b < b12 := by rw [eb12]; exact hk10.lt
    have hk14 := hk10.upd hub12 (Nat.ne_of_lt hl15)
    have hgeb12 : w.heap.size ≤ b12 := by rw [eb12]; exact hB11.size
    have hB16 := KeepB.trans hB11 (KeepB.of_new hub12 hgeb12)
    have hz := RowAt.lit (V := sV) (l := (rollS p' c' k (j - a) l)) hkb12 (by simp only [rollS, List.map, sV, List.length_drop, List.length_take, Nat.min_eq_left (show j - a ≤ l.length - k by omega)])
    refine WL.call hb31 rfl rfl ((lib_Concat _ (rollS p' c' k (j - a) l) _ _ hz (roll_rows (ho13).rowp hlc (by omega) (by omega)) (by simp [rollS]) (by simp [rollS, catS]; omega))) (fun q w17 hw17 => ?_)
    have ho18 := OwnM.below ho13 hw17.1
    have hk19 := hk14.below hw17.1 hk14.lt
    have hv20 := RowAt.below hz hw17.1 (fun h0 => hz.lt h0)
    have hB21 := KeepB.trans hB16 (KeepB.of_below hw17.1 hB16.size)
    obtain ⟨pq, cq, rfl, hrq, -⟩ := hw17.2.row
    refine WL.p (.as rfl) rfl <| WL.nil <| ?_
    refine W.seq ?_
    refine W.reg ?_ -- 7
    refine WL.p (.mv rfl) rfl <| WL.p (.mv rfl) rfl <| WL.cpM (L := objL) k Try.underlying25 Try.sizeOf39 (ho18) (by simp [rollS, catS]; omega) (by simp [rollS, catS]; omega) rfl (by simp [rollS, catS]; omega) rfl hrq rfl (fun wc gc hgc huc hoc => ?_)
    refine WL.nil <| ?_
    refine W.seq ?_
    refine W.reg ?_ -- 8
    refine WL.p (.as rfl) rfl <| WL.nil <| ?_
    refine W.ret (W.ret1 rfl rfl ?_)
    first
    | exact ⟨rvE rfl, ⟨hk19, by rw [roll_same (by assumption)]; exact hown⟩, hB21⟩
    | exact ⟨rvE (by rw [hce]), ⟨(hk19).upd huc (by have := (hown.lt gc (by rw [hgc]; rfl)).1; omega), by rw [rollO_eq (p := p') (c := c') hce hk (by omega) ha haj.2]; exact hoc⟩, KeepB.trans hB21 (KeepB.of_mem huc (List.mem_cons_of_mem _ (Option.mem_toList.2 (by rw [hgc]; rfl))))⟩

end Go.Proofs.Ytnjalolknhepdaa
