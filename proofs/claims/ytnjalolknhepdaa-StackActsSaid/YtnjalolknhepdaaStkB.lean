/-
  Stacks: the program's functions, second part.
-/
import Derived.Test.YtnjalolknhepdaaStkA
namespace Go.Proofs.Ytnjalolknhepdaa
open Go.RowKit

/-- what a call on the stack may turn: its block and its row; the row is the old one or new -/
def Stk (b : Nat) (v v' : Value) (w w' : World) : Prop := KeepB w.heap.size (b :: v.ownBlock.toList) w w' ∧ ∀ g, v'.ownBlock = some g → v.ownBlock = some g ∨ w.heap.size ≤ g
theorem Stk.refl (b : Nat) (v : Value) {w w' : World} (h : Drew w w') : Stk b v v w w' := ⟨KeepB.of_drew h, fun _ hg => .inl hg⟩
theorem notin_stk {b k : Nat} {v : Value} (h1 : k ≠ b) (h2 : v.ownBlock ≠ some k) : k ∉ b :: v.ownBlock.toList := by
  simp only [List.mem_cons, Option.mem_toList, not_or]
  exact ⟨h1, h2⟩
theorem stk_New (most ov un : Int) (w : World) :
    Calls Try.prog 12 #[.int .i64 most, .int .i64 ov, .int .i64 un] w fun e w' => ∃ v, e = .returned v ∧ Below w.heap.size w w' ∧ ∃ b, v = .pointer (some ⟨b, 0, none⟩) ∧ w.heap.size ≤ b ∧ b < w'.heap.size ∧ StackOk w' b (.slice none 0 0) (if 0 > most then 0 else most) ov un [] := by
  refine W.enter Try.func12 rfl Try.ntmps12 (Nat.le_of_ble_eq_true rfl) ?_
  have hB0 := Below.refl (w.heap.size) w
  refine W.seq ?_
  refine W.reg ?_ -- 0
  refine WL.p (.as rfl) rfl <| WL.nil <| ?_
  refine W.seq ?_
  refine W.reg ?_ -- 1
  refine WL.p (.mv rfl) rfl <| WL.p (.max2 rfl rfl) rfl <| WL.p (.mv rfl) rfl <| WL.p (.mv rfl) rfl <| ?_
  refine WL.p (.buildL (ps := _) blt57 rfl rfl rfl (by simp only [put1, List.map, List.zip, List.zipWith, List.set] <;> rfl)) rfl ?_
  refine WL.box rfl rfl (fun b1 wb1 eb1 hkb1 hub1 hsb1 => ?_)
  have hB2 := Upd.below hB0 (by rw [eb1]; exact hB0.size) hub1
  have hgeb1 : w.heap.size ≤ b1 := by rw [eb1]; exact hB0.size
  refine WL.p (.as rfl) rfl <| WL.nil <| ?_
  refine W.ret (W.ret1 rfl rfl ?_)
  exact ⟨_, rfl, hB2, b1, rfl, by omega, by omega, ⟨hkb1, OwnM.nil _ _ _ _⟩⟩
def pushE (most ov : Int) (l xs : List ObjV) : Int := if most - l.length < xs.length then ov else 0
def pushL (most : Int) (l xs : List ObjV) : List ObjV := if most - l.length < xs.length then l else l ++ xs
theorem stk_Push (b : Nat) (v : Value) (most ov un : Int) (l : List ObjV) (p : Option Addr) (xs : List ObjV) (c : Nat) (w : World) (h : StackOk w b v most ov un l) (hx : RowM objL w p xs) (hc : xs = [] → c = 0 ∨ p ≠ none)
    (hm : 0 ≤ most ∧ most ≤ 9223372036854775807) (hn : l.length + xs.length ≤ 10000000) :
    Calls Try.prog 14 #[.pointer (some ⟨b, 0, none⟩), .slice p xs.length c] w fun e w' => ∃ r, e = .returned r ∧ r = .int .i64 (pushE most ov l xs) ∧ ∃ v', StackOk w' b v' most ov un (pushL most l xs) ∧ Stk b v v' w w' := by
  obtain ⟨p', c', hv, -⟩ := h.own.row
  have hown := h.own
  have hr := h.blk
  have hbl := hr.lt
  subst hv
  refine W.enter Try.func14 rfl Try.ntmps14 (Nat.le_of_ble_eq_true rfl) ?_
  have hB0 := KeepB.refl w.heap.size (b :: (Value.slice p' l.length c').ownBlock.toList) w
  refine W.seq ?_
  refine W.reg ?_ -- 0
  refine WL.p (.as rfl) rfl <| WL.nil <| ?_
  refine W.seq ?_
  refine W.block ?_
  refine W.seq ?_
  refine W.reg ?_ -- 1
  refine WL.p (.mv rfl) rfl <| WL.p (.eqP Try.underlying26 rfl) rfl <| WL.p (.as rfl) rfl <| WL.nil <| ?_
  refine W.condF rfl rfl ?_
  refine W.seq ?_
  refine W.regQ mixed (by kernel_rfl) ?_ -- 3
  refine WQ.p (.mv rfl) rfl <| WQ.p (.lenS Try.underlying25 rfl) rfl <| WQ.p (.mv rfl) rfl <| WQ.p (.nck rfl) rfl <| WQ.p (.fa Try.underlying57 rfl Try.sizeOf3 (by decide) rfl) rfl <| WQ.r (fun m => Rd.ld (Try.isAgg3 _) rfl hr rfl) rfl <| WQ.p (.mv rfl) rfl <| WQ.p (.nck rfl) rfl <| WQ.p (.fa Try.underlying57 rfl Try.sizeOf25 (by decide) rfl) rfl <| WQ.r (fun m => Rd.ld (Try.isAgg25 _) rfl hr rfl) rfl <| WQ.p (.lenS Try.underlying25 rfl) rfl <| WQ.p (.sub rfl rfl (i64w (by omega))) rfl <| WQ.p (.gtr rfl rfl) rfl <| WQ.p (.as rfl) rfl <| WQ.nil (fun w1 dw1 => ?_)
  have ho2 := OwnM.drew hown dw1
  have hk3 := hr.drew dw1
  have hv4 := hx.drew dw1
  have hB5 := KeepB.trans hB0 (KeepB.of_drew dw1)
  refine W.cond rfl (fun h6 => ?_) (fun h6 => ?_) -- slot 8
  · have h6' := of_decide_eq_true h6
    refine W.seq ?_
    refine W.reg ?_ -- 4
    refine WL.p (.mv rfl) rfl <| WL.p (.nck rfl) rfl <| WL.p (.fa Try.underlying57 rfl Try.sizeOf28 (by decide) rfl) rfl <| WL.r (Rd.ld (Try.isAgg28 _) rfl hk3 rfl) rfl <| WL.p (.as rfl) rfl <| WL.nil <| ?_
    refine W.ret (W.ret1 rfl rfl ?_)
    first
    | exact ⟨_, rfl, (by unfold pushE; rw [if_pos (by omega)]; rfl), _, (by unfold pushL; rw [if_pos (by omega)]; exact ⟨hk3, ho2⟩), hB5, fun g hg => .inl hg⟩
    | exact ⟨_, rfl, (by unfold pushE; rw [if_neg (by omega)]), _, (by unfold pushL; rw [if_neg (by omega)]; exact ⟨hk3, ho2⟩), hB5, fun g hg => (HF g hg).imp id fun h => Nat.le_trans HFB.size h⟩
  · have h6' := of_decide_eq_false h6
    refine W.skip ?_
    refine W.seq ?_
    refine W.reg ?_ -- 5
    refine WL.p (.mv rfl) rfl <| WL.p (.mv rfl) rfl <| WL.p (.nck rfl) rfl <| WL.p (.fa Try.underlying57 rfl Try.sizeOf25 (by decide) rfl) rfl <| WL.r (Rd.ld (Try.isAgg25 _) rfl hk3 rfl) rfl <| WL.p (.mv rfl) rfl <| WL.appM Try.underlying25 inf39 rfl rfl rfl ho2 rfl hv4 (by omega) ((Nat.lt_of_lt_of_le hbl hB5.size)) rfl (hc) (fun v7 w8 how8 hbw8 hgw8 hfw8 => ?_)
    have hk9 := hk3.below hbw8 (by omega)
    have hB10 := KeepB.trans hB5 (KeepB.of_grown hgw8 (fun g hg => .inl (List.mem_cons_of_mem _ (Option.mem_toList.2 hg))) hB5.size)
    refine WL.p (.nck rfl) rfl <| WL.p (.fa Try.underlying57 rfl Try.sizeOf25 (by decide) rfl) rfl <| WL.st Try.sizeOf25 rfl rfl (how8).one hk9 (by first | decide | exact Nat.le_of_ble_eq_true rfl) (fun w11 hkw11 huw11 hsw11 => ?_)
    have ho12 := OwnM.touch how8 huw11 (by ((try simp only) <;> omega))
    have hB13 := KeepB.trans hB10 (by first | exact KeepB.of_new huw11 (by omega) | exact KeepB.of_mem huw11 (by simp))
    refine WL.nil <| ?_
    refine W.seq ?_
    refine W.reg ?_ -- 6
    refine WL.p (.as rfl) rfl <| WL.nil <| ?_
    refine W.ret (W.ret1 rfl rfl ?_)
    first
    | exact ⟨_, rfl, (by unfold pushE; rw [if_pos (by omega)]; rfl), _, (by unfold pushL; rw [if_pos (by omega)]; exact ⟨hkw11, ho12⟩), hB13, fun g hg => .inl hg⟩
    | exact ⟨_, rfl, (by unfold pushE; rw [if_neg (by omega)]), _, (by unfold pushL; rw [if_neg (by omega)]; exact ⟨hkw11, ho12⟩), hB13, fun g hg => (hfw8 g hg).imp id fun h => Nat.le_trans hB5.size h⟩
theorem stk_All (b : Nat) (v : Value) (most ov un : Int) (l : List ObjV) (w : World) (h : StackOk w b v most ov un l) (hl : l.length ≤ 10000000) :
    Calls Try.prog 17 #[.pointer (some ⟨b, 0, none⟩)] w fun e w' => ∃ v, e = .returned v ∧ Below w.heap.size w w' ∧ OwnM objL 39 w.heap.size w' v l := by
  obtain ⟨p', c', hv, hrow, -, -, hnil, -⟩ := h.own.row
  have hr := h.blk
  subst hv
  refine W.enter Try.func17 rfl Try.ntmps17 (Nat.le_of_ble_eq_true rfl) ?_
  have hB0 := Below.refl (w.heap.size) w
  refine W.seq ?_
  refine W.reg ?_ -- 0
  refine WL.p (.as rfl) rfl <| WL.nil <| ?_
  refine W.seq ?_
  refine W.seq ?_
  refine W.reg ?_ -- 1
  refine WL.p (.mv rfl) rfl <| WL.p (.eqP Try.underlying26 rfl) rfl <| WL.nil <| ?_
  refine W.condF rfl rfl ?_
  refine W.skip ?_
  refine W.seq ?_
  refine W.reg ?_ -- 3
  refine WL.p (.mv rfl) rfl <| WL.p (.nck rfl) rfl <| WL.p (.fa Try.underlying57 rfl Try.sizeOf25 (by decide) rfl) rfl <| WL.r (Rd.ld (Try.isAgg25 _) rfl hr rfl) rfl <| WL.call hb32 rfl rfl ((lib_Clone p' l c' _ hrow hnil hl)) (fun v w1 hw1 => ?_)
  have hk2 := hr.below hw1.1 hr.lt
  have hB3 := btr hB0 hw1.1
  have ho := hw1.2
  refine WL.p (.as rfl) rfl <| WL.nil <| ?_
  refine W.ret (W.ret1 rfl rfl ?_)
  exact ⟨_, rfl, hB3, ho⟩

def placeE (i : Int) (l : List ObjV) (un : Int) : Int := if i < 0 then 11 else if (l.length : Int) ≤ i then un else 0
def placeV (i : Int) (l : List ObjV) : Int := if i < 0 ∨ (l.length : Int) ≤ i then 0 else (l.length : Int) - 1 - i
theorem stk_place (b : Nat) (v : Value) (most ov un : Int) (l : List ObjV) (i : Int) (w : World) (h : StackOk w b v most ov un l) (hi : i ≤ 9223372036854775807) (hl : l.length ≤ 10000000) :
    Calls Try.prog 33 #[.pointer (some ⟨b, 0, none⟩), .int .i64 i] w fun e w' => e = .returned (.tuple #[.int .i64 (placeV i l), .int .i64 (placeE i l un)]) ∧ Drew w w' := by
  obtain ⟨p, c, rfl, -⟩ := h.own.row
  have hr := h.blk
  refine W.enter Try.func33 rfl Try.ntmps33 (Nat.le_of_ble_eq_true rfl) ?_
  refine W.seq ?_
  refine W.reg ?_ -- 0
  refine WL.p (.as rfl) rfl <| WL.p (.as rfl) rfl <| WL.nil <| ?_
  refine W.seq ?_
  refine W.block ?_
  refine W.seq ?_
  refine W.reg ?_ -- 1
  refine WL.p (.mv rfl) rfl <| WL.p (.eqP Try.underlying26 rfl) rfl <| WL.p (.as rfl) rfl <| WL.nil <| ?_
  refine W.condF rfl rfl ?_
  refine W.seq ?_
  refine W.reg ?_ -- 3
  refine WL.p (.mv rfl) rfl <| WL.p (.lss rfl rfl) rfl <| WL.p (.as rfl) rfl <| WL.nil <| ?_
  refine W.cond rfl (fun h1 => ?_) (fun h1 => ?_) -- slot 9
  · have h1' := of_decide_eq_true h1
    refine W.seq ?_
    refine W.reg ?_ -- 4
    refine WL.p (.as rfl) rfl <| WL.p (.as rfl) rfl <| WL.nil <| ?_
    refine W.ret (W.ret2 rfl rfl rfl ?_)
    first
    | exact ⟨rvE (by unfold placeE placeV; rw [if_pos (by omega), if_pos (by omega)]; first | done | rfl), Drew.refl _⟩
    | exact ⟨rvE (by unfold placeE placeV; rw [if_pos (by omega), if_neg (by omega), if_pos (by omega)]; first | done | rfl), DREW⟩
    | exact ⟨rvE (by unfold placeE placeV; rw [if_neg (by omega), if_neg (by omega), if_neg (by omega)]; first | done | rfl), Drew.refl _⟩
  · have h1' := of_decide_eq_false h1
    refine W.seq ?_
    refine W.reg ?_ -- 5
    refine WL.p (.mv rfl) rfl <| WL.p (.mv rfl) rfl <| WL.p (.nck rfl) rfl <| WL.p (.fa Try.underlying57 rfl Try.sizeOf25 (by decide) rfl) rfl <| WL.r (Rd.ld (Try.isAgg25 _) rfl hr rfl) rfl <| WL.p (.lenS Try.underlying25 rfl) rfl <| WL.p (.geq rfl rfl) rfl <| WL.p (.as rfl) rfl <| WL.nil <| ?_
    refine W.cond rfl (fun h2 => ?_) (fun h2 => ?_) -- slot 12
    · have h2' := of_decide_eq_true h2
      refine W.seq ?_
      refine W.regQ mixed (by kernel_rfl) ?_ -- 6
      refine WQ.p (.mv rfl) rfl <| WQ.p (.nck rfl) rfl <| WQ.p (.fa Try.underlying57 rfl Try.sizeOf28 (by decide) rfl) rfl <| WQ.r (fun m => Rd.ld (Try.isAgg28 _) rfl hr rfl) rfl <| WQ.p (.as rfl) rfl <| WQ.p (.as rfl) rfl <| WQ.nil (fun w3 dw3 => ?_)
      have hk4 := hr.drew dw3
      refine W.ret (W.ret2 rfl rfl rfl ?_)
      first
      | exact ⟨rvE (by unfold placeE placeV; rw [if_pos (by omega), if_pos (by omega)]; first | done | rfl), Drew.refl _⟩
      | exact ⟨rvE (by unfold placeE placeV; rw [if_pos (by omega), if_neg (by omega), if_pos (by omega)]; first | done | rfl), dw3⟩
      | exact ⟨rvE (by unfold placeE placeV; rw [if_neg (by omega), if_neg (by omega), if_neg (by omega)]; first | done | rfl), Drew.refl _⟩
    · have h2' := of_decide_eq_false h2
      refine W.skip ?_
      refine W.seq ?_
      refine W.reg ?_ -- 7
      refine WL.p (.mv rfl) rfl <| WL.p (.nck rfl) rfl <| WL.p (.fa Try.underlying57 rfl Try.sizeOf25 (by decide) rfl) rfl <| WL.r (Rd.ld (Try.isAgg25 _) rfl hr rfl) rfl <| WL.p (.lenS Try.underlying25 rfl) rfl <| WL.p (.sub rfl rfl (i64w (by omega))) rfl <| WL.p (.mv rfl) rfl <| WL.p (.sub rfl rfl (i64w (by omega))) rfl <| WL.p (.as rfl) rfl <| WL.p (.as rfl) rfl <| WL.nil <| ?_
      refine W.ret (W.ret2 rfl rfl rfl ?_)
      first
      | exact ⟨rvE (by unfold placeE placeV; rw [if_pos (by omega), if_pos (by omega)]; first | done | rfl), Drew.refl _⟩
      | exact ⟨rvE (by unfold placeE placeV; rw [if_pos (by omega), if_neg (by omega), if_pos (by omega)]; first | done | rfl), DREW⟩
      | exact ⟨rvE (by unfold placeE placeV; rw [if_neg (by omega), if_neg (by omega), if_neg (by omega)]; first | done | rfl), Drew.refl _⟩
def topV (i : Int) (l : List ObjV) (un : Int) : ObjV := if placeE i l un = 0 then l.getD (placeV i l).toNat ⟨0, false, 0, 0, [], 0, 0, 0⟩ else ⟨0, false, 0, 0, [], 0, 0, 0⟩
theorem stk_Top (b : Nat) (v : Value) (most ov un : Int) (l : List ObjV) (i : Int) (w : World) (h : StackOk w b v most ov un l) (hi : i ≤ 9223372036854775807) (hl : l.length ≤ 10000000) (hu : un ≠ 0) :
    Calls Try.prog 20 #[.pointer (some ⟨b, 0, none⟩), .int .i64 i] w fun e w' => e = .returned (.tuple #[.agg (objV (topV i l un)).toArray, .int .i64 (placeE i l un)]) ∧ Below w.heap.size w w' := by
  obtain ⟨p, c, hv, hrow, -⟩ := h.own.row
  have hr := h.blk
  subst hv
  refine W.enter Try.func20 rfl Try.ntmps20 (Nat.le_of_ble_eq_true rfl) ?_
  have hB0 := Below.refl (w.heap.size) w
  refine W.seq ?_
  refine W.reg ?_ -- 0
  refine WL.alloc Try.zeroValue39 rfl (fun b1 wb1 eb1 hkb1 hub1 hsb1 => ?_)
  have hl3 : b < b1 := by rw [eb1]; exact hr.lt
  have hk2 := hr.upd hub1 (Nat.ne_of_lt hl3)
  have hvl5 := fun h0 => eb1 ▸ hrow.lt h0
  have hv4 := RowM.upd hrow hub1 (fun h0 => Nat.ne_of_lt (hvl5 h0))
  have hB6 := Upd.below hB0 (by rw [eb1]; exact hB0.size) hub1
  have hgeb1 : w.heap.size ≤ b1 := by rw [eb1]; exact hB0.size
  refine WL.p (.as rfl) rfl <| WL.nil <| ?_
  refine W.seq ?_
  refine W.reg ?_ -- 1
  refine WL.p (.mv rfl) rfl <| WL.p (.mv rfl) rfl <| WL.c1 hb33 rfl rfl ((stk_place b _ most ov un l i _ (⟨hk2, h.own.below (by first | exact Upd.below (Below.refl _ _) (by omega) hub1 | exact Below.refl _ _)⟩) hi hl)) (fun w7 hw7 => ?_)
  have hk8 := hk2.drew hw7
  have hk9 := hkb1.drew hw7
  have hv10 := hv4.drew hw7
  have hB11 := Drew.below hB6 hw7
  refine WL.p (.mv rfl) rfl <| WL.p (.ext rfl rfl) rfl <| WL.p (.ext rfl rfl) rfl <| WL.p (.as rfl) rfl <| WL.p (.as rfl) rfl <| WL.nil <| ?_
  refine W.seq ?_
  refine W.seq ?_
  refine W.reg ?_ -- 2
  refine WL.p (.mv rfl) rfl <| WL.p (.neq rfl rfl) rfl <| WL.nil <| ?_
  refine W.cond rfl (fun h12 => ?_) (fun h12 => ?_) -- slot 15
  · have h12' := ndT h12
    refine W.seq ?_
    refine W.reg ?_ -- 3
    refine WL.p (.buildL (ps := _) blt39 rfl rfl rfl (by simp only [put1, List.map, List.zip, List.zipWith] <;> rfl)) rfl ?_
    refine WL.p (.mv rfl) rfl <| WL.stL rfl rfl hk9 isz39 rfl rfl (fun w13 hkw13 huw13 hsw13 => ?_)
    have hk14 := hk8.upd huw13 (by ((try simp only) <;> omega))
    have hv15 := RowM.upd hv10 huw13 (fun h0 => Nat.ne_of_lt (hvl5 h0))
    have hB16 := Upd.below hB11 (by omega) huw13
    refine WL.p (.as rfl) rfl <| WL.nil <| ?_
    refine W.ret (W.retc2 rfl rfl (ldRow hkw13 Try.underlying39 rfl isz39) rfl ?_)
    first
    | exact ⟨rvE (by unfold topV; rw [if_neg (by assumption)]; rfl), hB16⟩
    | exact ⟨rvE (by unfold topV; rw [if_pos (by assumption), hv, show placeE i l un = 0 by assumption, Int.toNat_natCast, List.getD_eq_getElem?_getD, List.getElem?_eq_getElem (by omega)]; rfl), hB16⟩
  · have h12' := ndF h12
    have hp : 0 ≤ i ∧ i < l.length := by
      have hq := show placeE i l un = 0 by assumption
      unfold placeE at hq
      split at hq
      · cases hq
      · split at hq
        · exact absurd hq hu
        · omega
    have hv : placeV i l = ((l.length - 1 - i.toNat : Nat) : Int) := by unfold placeV; rw [if_neg (by omega)]; omega
    refine W.skip ?_
    refine W.seq ?_
    refine W.reg ?_ -- 4
    refine WL.p (.mv rfl) rfl <| WL.p (.nck rfl) rfl <| WL.p (.fa Try.underlying57 rfl Try.sizeOf25 (by decide) rfl) rfl <| WL.r (Rd.ld (Try.isAgg25 _) rfl hk8 rfl) rfl <| WL.p (.mv rfl) rfl <| WL.p (.ixm Try.underlying25 Try.sizeOf39 rfl rfl (hv10.isp (by omega)) (l.length - 1 - i.toNat) (by omega) (by omega)) rfl <| WL.r (Rd.ldS Try.underlying39 rfl isz39 hv10 (l.length - 1 - i.toNat) (by omega) rfl) rfl <| WL.stL rfl rfl hk9 isz39 rfl rfl (fun w17 hkw17 huw17 hsw17 => ?_)
    have hk18 := hk8.upd huw17 (by ((try simp only) <;> omega))
    have hv19 := RowM.upd hv10 huw17 (fun h0 => Nat.ne_of_lt (hvl5 h0))
    have hB20 := Upd.below hB11 (by omega) huw17
    refine WL.p (.as rfl) rfl <| WL.nil <| ?_
    refine W.ret (W.retc2 rfl rfl (ldRow hkw17 Try.underlying39 rfl isz39) rfl ?_)
    first
    | exact ⟨rvE (by unfold topV; rw [if_neg (by assumption)]; rfl), hB20⟩
    | exact ⟨rvE (by unfold topV; rw [if_pos (by assumption), hv, show placeE i l un = 0 by assumption, Int.toNat_natCast, List.getD_eq_getElem?_getD, List.getElem?_eq_getElem (by omega)]; rfl), hB20⟩

def takeT (n : Int) (l : List ObjV) (un : Int) : List ObjV := if checkE n l un = 0 then l.drop (l.length - n.toNat) else []
def takeL (n : Int) (l : List ObjV) (un : Int) : List ObjV := if checkE n l un = 0 then l.take (l.length - n.toNat) else l
theorem checkE_ok {n : Int} {l : List ObjV} {un : Int} (hu : un ≠ 0) (h : checkE n l un = 0) : 0 ≤ n ∧ n ≤ l.length := by
  unfold checkE at h
  split at h
  · cases h
  · split at h
    · exact absurd h hu
    · omega
theorem part_nil {m : Nat} {p : Option Addr} {l : List ObjV} {c k : Nat} (hnil : l = [] → c = 0 ∨ p ≠ none) (hp : p = none → l = [] ∧ c = 0) : c - k = 0 ∨ pPartM m p c k ≠ none := by
  cases p with
  | none => have := (hp rfl).2; left; omega
  | some a => right; unfold pPartM; split <;> simp
theorem stk_TakeI (b : Nat) (v : Value) (most ov un : Int) (l : List ObjV) (n : Int) (w : World) (h : StackOk w b v most ov un l) (hn : n ≤ 9223372036854775807) (hl : l.length ≤ 10000000) (hu : un ≠ 0) :
    Calls Try.prog 19 #[.pointer (some ⟨b, 0, none⟩), .int .i64 n] w fun e w' => ∃ r, e = .returned r ∧ ∃ q v', r = .tuple #[q, .int .i64 (checkE n l un)] ∧ OwnM objL 39 w.heap.size w' q (takeT n l un) ∧ StackOk w' b v' most ov un (takeL n l un) ∧ KeepB w.heap.size (b :: v.ownBlock.toList) w w' ∧ ∀ g, v'.ownBlock = some g → v.ownBlock = some g := by
  obtain ⟨p', c', hv, hrow, -, hlc, hnil, -⟩ := h.own.row
  have hown := h.own
  have hr := h.blk
  have hbl := hr.lt
  have hpn : p' = none → l = [] ∧ c' = 0 := fun e => by
    rcases hown with ⟨h1, h2⟩ | ⟨g, cap, cur, h1, -⟩
    · rw [h1] at hv; simp only [Value.slice.injEq] at hv; exact ⟨h2, hv.2.2.symm⟩
    · rw [h1] at hv; simp only [Value.slice.injEq] at hv; rw [e] at hv; cases hv.1
  subst hv
  refine W.enter Try.func19 rfl Try.ntmps19 (Nat.le_of_ble_eq_true rfl) ?_
  have hB0 := KeepB.refl w.heap.size (b :: (Value.slice p' l.length c').ownBlock.toList) w
  refine W.seq ?_
  refine W.reg ?_ -- 0
  refine WL.p (.as rfl) rfl <| WL.p (.as rfl) rfl <| WL.nil <| ?_
  refine W.seq ?_
  refine W.seq ?_
  refine W.reg ?_ -- 1
  refine WL.p (.mv rfl) rfl <| WL.p (.mv rfl) rfl <| WL.c1 hb30 rfl rfl ((stk_check b _ most ov un l n _ ⟨hr, hown⟩)) (fun w1 hw1 => ?_)
  obtain rfl := hw1
  refine WL.p (.as rfl) rfl <| WL.nil <| ?_
  refine W.seq ?_
  refine W.reg ?_ -- 2
  refine WL.p (.mv rfl) rfl <| WL.p (.neq rfl rfl) rfl <| WL.nil <| ?_
  refine W.cond rfl (fun h2 => ?_) (fun h2 => ?_) -- slot 13
  · have h2' := ndT h2
    refine W.seq ?_
    refine W.reg ?_ -- 3
    refine WL.p (.mv rfl) rfl <| WL.p (.as rfl) rfl <| WL.p (.as rfl) rfl <| WL.nil <| ?_
    refine W.ret (W.ret2 rfl rfl rfl ?_)
    first
    | exact ⟨_, rfl, _, _, rfl, by unfold takeT; rw [if_neg (by assumption)]; exact OwnM.nil _ _ _ _, by unfold takeL; rw [if_neg (by assumption)]; exact ⟨hr, hown⟩, hB0, fun g hg => hg⟩
    | exact ⟨_, rfl, _, _, by rw [hce], by rw [hT]; exact OWN, by rw [hL]; exact ⟨hr, by rw [pPartM_zero]; exact (hown).cut k (by omega)⟩, hB0, fun g hg => by rw [pPartM_zero] at hg; cases p' <;> exact hg⟩
  · have h2' := ndF h2
    have hce : checkE n l un = 0 := by assumption
    obtain ⟨hn0, hnl⟩ := checkE_ok hu hce
    obtain ⟨n, rfl⟩ := Int.eq_ofNat_of_zero_le hn0
    obtain ⟨k, hk⟩ : ∃ k, k = l.length - n := ⟨_, rfl⟩
    have hT : takeT (n : Int) l un = l.drop k := by unfold takeT; rw [if_pos hce, Int.toNat_natCast, hk]
    have hL : takeL (n : Int) l un = l.take k := by unfold takeL; rw [if_pos hce, Int.toNat_natCast, hk]
    refine W.skip ?_
    refine W.seq ?_
    refine W.reg ?_ -- 4
    refine WL.p (.mv rfl) rfl <| WL.p (.nck rfl) rfl <| WL.p (.fa Try.underlying57 rfl Try.sizeOf25 (by decide) rfl) rfl <| WL.r (Rd.ld (Try.isAgg25 _) rfl hr rfl) rfl <| WL.p (.lenS Try.underlying25 rfl) rfl <| WL.p (.mv rfl) rfl <| WL.p (.iis ((k : Int)) (.sub rfl rfl (i64w (by omega))) (by omega)) rfl <| WL.p (.as rfl) rfl <| WL.nil <| ?_
    refine W.seq ?_
    refine W.reg ?_ -- 5
    refine WL.p (.mv rfl) rfl <| WL.p (.nck rfl) rfl <| WL.p (.fa Try.underlying57 rfl Try.sizeOf25 (by decide) rfl) rfl <| WL.r (Rd.ld (Try.isAgg25 _) rfl hr rfl) rfl <| WL.p (.mv rfl) rfl <| WL.p (.slmF Try.underlying25 Try.sizeOf39 rfl rfl  (k) (by omega) (by omega)) rfl <| WL.call hb32 rfl rfl ((lib_Clone' _ (l.drop k) _ _ _ (by rw [List.length_drop]) (hrow.partF (by omega) hlc) (fun _ => part_nil hnil hpn) (by rw [List.length_drop]; omega))) (fun q w3 hw3 => ?_)
    have ho4 := OwnM.below hown hw3.1
    have hk5 := hr.below hw3.1 hr.lt
    have hB6 := KeepB.trans hB0 (KeepB.of_below hw3.1 hB0.size)
    have hq := hw3.2
    have hlq := Nat.lt_of_lt_of_le hbl hB0.size
    refine WL.p (.as rfl) rfl <| WL.nil <| ?_
    refine W.seq ?_
    refine W.reg ?_ -- 6
    refine WL.p (.mv rfl) rfl <| WL.p (.mv rfl) rfl <| WL.p (.nck rfl) rfl <| WL.p (.fa Try.underlying57 rfl Try.sizeOf25 (by decide) rfl) rfl <| WL.r (Rd.ld (Try.isAgg25 _) rfl hk5 rfl) rfl <| WL.p (.mv rfl) rfl <| WL.p (.mv rfl) rfl <| WL.p (.slm3 Try.underlying25 Try.sizeOf39 rfl rfl rfl  (k) (by omega) (by omega) (by omega)) rfl <| WL.p (.nck rfl) rfl <| WL.p (.fa Try.underlying57 rfl Try.sizeOf25 (by decide) rfl) rfl <| WL.st Try.sizeOf25 rfl rfl rfl hk5 (by first | decide | exact Nat.le_of_ble_eq_true rfl) (fun w7 hkw7 huw7 hsw7 => ?_)
    have ho8 := OwnM.touch ho4 huw7 (by ((try simp only) <;> omega))
    have ho9 := OwnM.touch hq huw7 (hlq)
    have hB10 := KeepB.trans hB6 (by first | exact KeepB.of_new huw7 (by omega) | exact KeepB.of_mem huw7 (by simp))
    refine WL.nil <| ?_
    refine W.seq ?_
    refine W.reg ?_ -- 7
    refine WL.p (.mv rfl) rfl <| WL.p (.as rfl) rfl <| WL.p (.as rfl) rfl <| WL.nil <| ?_
    refine W.ret (W.ret2 rfl rfl rfl ?_)
    first
    | exact ⟨_, rfl, _, _, rfl, by unfold takeT; rw [if_neg (by assumption)]; exact OwnM.nil _ _ _ _, by unfold takeL; rw [if_neg (by assumption)]; exact ⟨hkw7, hown⟩, hB10, fun g hg => hg⟩
    | exact ⟨_, rfl, _, _, by rw [hce], by rw [hT]; exact ho9, by rw [hL]; exact ⟨hkw7, by rw [pPartM_zero]; exact (ho8).cut k (by omega)⟩, hB10, fun g hg => by rw [pPartM_zero] at hg; cases p' <;> exact hg⟩
theorem stk_Take (b : Nat) (v : Value) (most ov un : Int) (l : List ObjV) (n : Int) (w : World) (h : StackOk w b v most ov un l) (hn : n ≤ 9223372036854775807) (hl : l.length ≤ 10000000) (hu : un ≠ 0) :
    Calls Try.prog 19 #[.pointer (some ⟨b, 0, none⟩), .int .i64 n] w fun e w' => ∃ r, e = .returned r ∧ ∃ q v', r = .tuple #[q, .int .i64 (checkE n l un)] ∧ OwnM objL 39 w.heap.size w' q (takeT n l un) ∧ StackOk w' b v' most ov un (takeL n l un) ∧ Stk b v v' w w' := by
  refine (stk_TakeI b v most ov un l n w h hn hl hu).mono fun e w' ⟨r, h1, q, v', h2, h3, h4, h5, h6⟩ => ⟨r, h1, q, v', h2, h3, h4, h5, fun g hg => .inl (h6 g hg)⟩

theorem stk_Pop (b : Nat) (v : Value) (most ov un : Int) (l : List ObjV) (w : World) (h : StackOk w b v most ov un l) (hl : l.length ≤ 10000000) (hu : un ≠ 0) :
    Calls Try.prog 18 #[.pointer (some ⟨b, 0, none⟩)] w fun e w' => ∃ r, e = .returned r ∧ ∃ v', r = .tuple #[.agg (objV ((takeT 1 l un).getD 0 ⟨0, false, 0, 0, [], 0, 0, 0⟩)).toArray, .int .i64 (checkE 1 l un)] ∧ StackOk w' b v' most ov un (takeL 1 l un) ∧ Stk b v v' w w' := by
  have hown := h.own
  have hr := h.blk
  have hbl := hr.lt
  refine W.enter Try.func18 rfl Try.ntmps18 (Nat.le_of_ble_eq_true rfl) ?_
  have hB0 := KeepB.refl w.heap.size (b :: v.ownBlock.toList) w
  refine W.seq ?_
  refine W.reg ?_ -- 0
  refine WL.alloc Try.zeroValue39 rfl (fun b1 wb1 eb1 hkb1 hub1 hsb1 => ?_)
  have ho2 := OwnM.new hown eb1 hub1
  have hl4 : b < b1 := by rw [eb1]; exact hr.lt
  have hk3 := hr.upd hub1 (Nat.ne_of_lt hl4)
  have hgeb1 : w.heap.size ≤ b1 := by rw [eb1]; exact hB0.size
  have hB5 := KeepB.trans hB0 (KeepB.of_new hub1 hgeb1)
  refine WL.p (.as rfl) rfl <| WL.nil <| ?_
  refine W.seq ?_
  refine W.reg ?_ -- 1
  refine WL.p (.mv rfl) rfl <| WL.call hb19 rfl rfl ((stk_Take b v most ov un l 1 _ ⟨hk3, ho2⟩ (by decide) hl hu)) (fun r w6 hw6 => ?_)
  obtain ⟨q, v2, rfl, hq, hs2, hk2⟩ := hw6
  obtain ⟨pq, cq, rfl, hrq, hqb, -⟩ := hq.row
  have hqne : 0 < (takeT 1 l un).length → (pA pq).block ≠ b1 := fun h0 => by have := hqb _ (hrq.isp h0); omega
  have hB2 := KeepB.trans hB5 (hk2.1.mono (by omega))
  have hkb := Blk.keepB hkb1 hk2.1 (hkb1).lt (notin_stk (by omega) (fun e => by have := (hown.lt _ e).2; omega))
  have hkb0 := hs2.blk
  have hon := hs2.own
  have hnew := hk2.2
  have hvne : ∀ g, v2.ownBlock = some g → g ≠ b1 := fun g hg => (hnew g hg).elim (fun h e => by have := (hown.lt g h).2; omega) (fun h e => by omega)
  refine WL.p (.mv rfl) rfl <| WL.p (.ext rfl rfl) rfl <| WL.p (.ext rfl rfl) rfl <| WL.p (.as rfl) rfl <| WL.p (.as rfl) rfl <| WL.nil <| ?_
  refine W.seq ?_
  refine W.seq ?_
  refine W.reg ?_ -- 2
  refine WL.p (.mv rfl) rfl <| WL.p (.neq rfl rfl) rfl <| WL.nil <| ?_
  refine W.cond rfl (fun h7 => ?_) (fun h7 => ?_) -- slot 12
  · have h7' := ndT h7
    refine W.seq ?_
    refine W.reg ?_ -- 3
    refine WL.p (.buildL (ps := _) blt39 rfl rfl rfl (by simp only [put1, List.map, List.zip, List.zipWith] <;> rfl)) rfl ?_
    refine WL.p (.mv rfl) rfl <| WL.stL rfl rfl hkb isz39 rfl rfl (fun w8 hkw8 huw8 hsw8 => ?_)
    have ho9 := OwnM.upd hon huw8 (hvne)
    have hk10 := hkb0.upd huw8 (by ((try simp only) <;> omega))
    have hv11 := RowM.upd hrq huw8 hqne
    have hB12 := KeepB.trans hB2 (by first | exact KeepB.of_new huw8 (by omega) | exact KeepB.of_mem huw8 (by simp))
    refine WL.p (.as rfl) rfl <| WL.nil <| ?_
    refine W.ret (W.retc2 rfl rfl (ldRow hkw8 Try.underlying39 rfl isz39) rfl ?_)
    first
    | exact ⟨_, rfl, v2, (by rw [show takeT 1 l un = [] by unfold takeT; rw [if_neg (by assumption)]]; rfl), ⟨hk10, ho9⟩, hB12, fun g hg => (hnew g hg).imp id fun h => by omega⟩
    | exact ⟨_, rfl, v2, (by rw [hce, List.getD_eq_getElem?_getD, List.getElem?_eq_getElem hlen]; rfl), ⟨hk10, ho9⟩, hB12, fun g hg => (hnew g hg).imp id fun h => by omega⟩
  · have h7' := ndF h7
    have hce : checkE 1 l un = 0 := by assumption
    obtain ⟨hn0, hnl⟩ := checkE_ok hu hce
    have hlen : 0 < (takeT 1 l un).length := by unfold takeT; rw [if_pos hce, List.length_drop, show (1 : Int).toNat = 1 from rfl]; omega
    refine W.skip ?_
    refine W.seq ?_
    refine W.reg ?_ -- 4
    refine WL.p (.mv rfl) rfl <| WL.p (.ixm Try.underlying25 Try.sizeOf39 rfl rfl (hrq.isp (by omega)) (0) (rfl) (hlen)) rfl <| WL.r (Rd.ldS Try.underlying39 rfl isz39 hrq (0) (by omega) rfl) rfl <| WL.stL rfl rfl hkb isz39 rfl rfl (fun w13 hkw13 huw13 hsw13 => ?_)
    have ho14 := OwnM.upd hon huw13 (hvne)
    have hk15 := hkb0.upd huw13 (by ((try simp only) <;> omega))
    have hv16 := RowM.upd hrq huw13 hqne
    have hB17 := KeepB.trans hB2 (by first | exact KeepB.of_new huw13 (by omega) | exact KeepB.of_mem huw13 (by simp))
    refine WL.p (.as rfl) rfl <| WL.nil <| ?_
    refine W.ret (W.retc2 rfl rfl (ldRow hkw13 Try.underlying39 rfl isz39) rfl ?_)
    first
    | exact ⟨_, rfl, v2, (by rw [show takeT 1 l un = [] by unfold takeT; rw [if_neg (by assumption)]]; rfl), ⟨hk15, ho14⟩, hB17, fun g hg => (hnew g hg).imp id fun h => by omega⟩
    | exact ⟨_, rfl, v2, (by rw [hce, List.getD_eq_getElem?_getD, List.getElem?_eq_getElem hlen]; rfl), ⟨hk15, ho14⟩, hB17, fun g hg => (hnew g hg).imp id fun h => by omega⟩

end Go.Proofs.Ytnjalolknhepdaa
