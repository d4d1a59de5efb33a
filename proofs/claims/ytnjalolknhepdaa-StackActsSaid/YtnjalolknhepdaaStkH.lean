/-
  Stacks: ToMark, Reset.
-/
import Derived.Test.YtnjalolknhepdaaStkD
namespace Go.Proofs.Ytnjalolknhepdaa
open Go.RowKit

/-- where the topmost mark is, and the answer -/
def MarkAt (l : List ObjV) (a e : Int) : Prop :=
  (∃ i : Nat, i < l.length ∧ a = i ∧ e = 0 ∧ (l.getD (l.length - 1 - i) objZ).kind = 4 ∧ ∀ k, k < i → (l.getD (l.length - 1 - k) objZ).kind ≠ 4) ∨ (a = 0 ∧ e = 19 ∧ ∀ k, k < l.length → (l.getD (l.length - 1 - k) objZ).kind ≠ 4)
theorem stk_ToMark (b : Nat) (v : Value) (most ov un : Int) (l : List ObjV) (w : World) (h : StackOk w b v most ov un l) (hl : l.length ≤ 10000000) :
    Calls Try.prog 22 #[.pointer (some ⟨b, 0, none⟩)] w fun e w' => ∃ r, e = .returned r ∧ Drew w w' ∧ ∃ a c, r = .tuple #[.int .i64 a, .int .i64 c] ∧ MarkAt l a c := by
  obtain ⟨p', c', hv, hrow, -⟩ := h.own.row
  have hr := h.blk
  subst hv
  refine W.enter Try.func22 rfl Try.ntmps22 (Nat.le_of_ble_eq_true rfl) ?_
  refine W.seq ?_
  refine W.reg ?_ -- 0
  refine WL.p (.as rfl) rfl <| WL.p (.as rfl) rfl <| WL.nil <| ?_
  refine W.seq ?_
  refine W.seq ?_
  refine W.reg ?_ -- 1
  refine WL.p (.mv rfl) rfl <| WL.p (.eqP Try.underlying26 rfl) rfl <| WL.nil <| ?_
  refine W.condF rfl rfl ?_
  refine W.skip ?_
  refine W.seq ?_
  refine W.seq ?_
  refine W.reg ?_ -- 3
  refine WL.p (.mv rfl) rfl <| WL.p (.nck rfl) rfl <| WL.p (.fa Try.underlying57 rfl Try.sizeOf25 (by decide) rfl) rfl <| WL.r (Rd.ld (Try.isAgg25 _) rfl hr rfl) rfl <| WL.p (.lenS Try.underlying25 rfl) rfl <| WL.p (.mv rfl) rfl <| WL.nil <| ?_
  refine W.block ?_
  -- loop 1: writes [2, 3, 4, 12, 13, 14, 15, 16, 17, 18, 19, 20, 21, 22, 23, 24, 25, 26, 27, 28, 29, 30, 31, 32]; reads from outside [0, 11, 12]
  refine W.loop (α := Nat) (fun t => [(0, .pointer (some ⟨b, 0, none⟩)), (11, .int .i64 (l.length : Int)), (12, .int .i64 (t : Int))]) (fun t w' => Drew w w' ∧ t ≤ l.length ∧ ∀ k, k < t → (l.getD (l.length - 1 - k) objZ).kind ≠ 4) (fun t => l.length - t) (0) ⟨rfl, rfl, rfl, trivial⟩ (⟨Drew.refl _, Nat.zero_le _, fun k hk => by omega⟩) (fun t w1 hR => ?_)
  obtain ⟨s, rfl⟩ : ∃ s, s = t := ⟨t, rfl⟩
  obtain ⟨hd, hs, hno⟩ := hR
  have ha := hrow.drew hd
  have hbb := hr.drew hd
  refine W.seq ?_
  refine W.reg ?_ -- 4
  refine WL.p (.lss rfl rfl) rfl <| WL.nil <| ?_
  refine W.seq ?_
  refine W.cond rfl (fun h1 => ?_) (fun h1 => ?_) -- slot 13
  · have h1' := of_decide_eq_true h1
    refine W.skip ?_
    refine W.seq ?_
    refine W.block ?_
    refine W.seq ?_
    refine W.reg ?_ -- 5
    refine WL.p (.mv rfl) rfl <| WL.p (.as rfl) rfl <| WL.nil <| ?_
    refine W.seq ?_
    refine W.regQ mixed (by kernel_rfl) ?_ -- 6
    refine WQ.p (.mv rfl) rfl <| WQ.p (.nck rfl) rfl <| WQ.p (.fa Try.underlying57 rfl Try.sizeOf25 (by decide) rfl) rfl <| WQ.r (fun m => Rd.ld (Try.isAgg25 _) rfl hbb rfl) rfl <| WQ.p (.mv rfl) rfl <| WQ.p (.nck rfl) rfl <| WQ.p (.fa Try.underlying57 rfl Try.sizeOf25 (by decide) rfl) rfl <| WQ.r (fun m => Rd.ld (Try.isAgg25 _) rfl hbb rfl) rfl <| WQ.p (.lenS Try.underlying25 rfl) rfl <| WQ.p (.sub rfl rfl (i64w (by omega))) rfl <| WQ.p (.mv rfl) rfl <| WQ.p (.iis (((l.length - 1 - s : Nat) : Int)) (.sub rfl rfl (i64w (by omega))) (by omega)) rfl <| WQ.p (.ixm Try.underlying25 Try.sizeOf39 rfl rfl (ha.isp (by omega)) (l.length - 1 - s) (by omega) (by omega)) rfl <| WQ.p (.fa Try.underlying39 rfl Try.sizeOf3 (by decide) rfl) rfl <| WQ.r (fun m => Rd.ldc (Try.isAgg3 _) rfl (((ha.drewN m).field (l.length - 1 - s) (by omega) 0 (by decide)).trans rfl)) rfl <| WQ.p (.eql rfl rfl) rfl <| WQ.nil (fun w2 dw2 => ?_)
    have hk3 := hbb.drew dw2
    have hv4 := ha.drew dw2
    refine W.cond rfl (fun h5 => ?_) (fun h5 => ?_) -- slot 30
    · have h5' := of_decide_eq_true h5
      refine W.seq ?_
      refine W.reg ?_ -- 7
      refine WL.p (.mv rfl) rfl <| WL.p (.as rfl) rfl <| WL.p (.as rfl) rfl <| WL.nil <| ?_
      refine W.ret (W.ret2 rfl rfl rfl ?_)
      first
      | exact ⟨_, rfl, hd.trans dw2, _, _, rfl, .inl ⟨s, by omega, rfl, rfl, by rw [List.getD_eq_getElem?_getD, List.getElem?_eq_getElem (by omega)]; assumption, hno⟩⟩
      | exact ⟨_, rfl, hd, _, _, rfl, .inr ⟨rfl, rfl, fun k hk => hno k (by omega)⟩⟩
    · have h5' := of_decide_eq_false h5
      refine W.skip ?_
      refine W.reg ?_ -- 8
      refine WL.p (.iis (((s + 1 : Nat) : Int)) (.add rfl rfl (i64w (by omega))) (by omega)) rfl <| WL.p (.mv rfl) rfl <| WL.nil <| ?_
      exact ⟨s + 1, ⟨rfl, rfl, rfl, trivial⟩, ⟨hd.trans dw2, by ((try simp only) <;> omega), fun k hk => by
        rcases Nat.lt_or_ge k s with h | h
        · exact hno k h
        · obtain rfl : k = s := by omega
          rw [List.getD_eq_getElem?_getD, List.getElem?_eq_getElem (by omega)]; assumption⟩, by ((try simp only) <;> omega)⟩
  · have h1' := of_decide_eq_false h1
    refine W.exit ?_ -- 0
    refine W.seq ?_
    refine W.reg ?_ -- 9
    refine WL.p (.as rfl) rfl <| WL.p (.as rfl) rfl <| WL.nil <| ?_
    refine W.ret (W.ret2 rfl rfl rfl ?_)
    first
    | exact ⟨_, rfl, hd.trans DREW, _, _, rfl, .inl ⟨s, by omega, rfl, rfl, by rw [List.getD_eq_getElem?_getD, List.getElem?_eq_getElem (by omega)]; assumption, hno⟩⟩
    | exact ⟨_, rfl, hd, _, _, rfl, .inr ⟨rfl, rfl, fun k hk => hno k (by omega)⟩⟩

theorem stk_Reset (b : Nat) (v : Value) (most ov un : Int) (l : List ObjV) (p : Option Addr) (xs : List ObjV) (c : Nat) (w : World) (h : StackOk w b v most ov un l) (hx : RowM objL w p xs) (hc : xs = [] → c = 0 ∨ p ≠ none) (hlc : xs.length ≤ c)
    (hpn : p = none → xs = [] ∧ c = 0) (hm : 0 ≤ most ∧ most ≤ 9223372036854775807) (hl : min xs.length most.toNat ≤ 10000000) :
    Calls Try.prog 23 #[.pointer (some ⟨b, 0, none⟩), .slice p xs.length c] w fun e w' => e = .returned (.tuple #[]) ∧ ∃ v', StackOk w' b v' most ov un (xs.take (min xs.length most.toNat)) ∧ Stk b v v' w w' := by
  obtain ⟨p', c', hv, hrow, -⟩ := h.own.row
  have hown := h.own
  have hr := h.blk
  have hbl := hr.lt
  obtain ⟨k, hk⟩ : ∃ k, k = min xs.length most.toNat := ⟨_, rfl⟩
  rw [← hk] at hl ⊢
  have hlk : (xs.take k).length = k := by rw [List.length_take]; omega
  subst hv
  refine W.enter Try.func23 rfl Try.ntmps23 (Nat.le_of_ble_eq_true rfl) ?_
  have hB0 := KeepB.refl w.heap.size (b :: (Value.slice p' l.length c').ownBlock.toList) w
  refine W.seq ?_
  refine W.reg ?_ -- 0
  refine WL.p (.mv rfl) rfl <| WL.p (.neP Try.underlying26 rfl) rfl <| WL.nil <| ?_
  refine W.condT rfl rfl ?_
  refine W.reg ?_ -- 1
  refine WL.p (.mv rfl) rfl <| WL.p (.mv rfl) rfl <| WL.p (.mv rfl) rfl <| WL.p (.lenS Try.underlying25 rfl) rfl <| WL.p (.mv rfl) rfl <| WL.p (.nck rfl) rfl <| WL.p (.fa Try.underlying57 rfl Try.sizeOf3 (by decide) rfl) rfl <| WL.r (Rd.ld (Try.isAgg3 _) rfl hr rfl) rfl <| WL.p (.iis ((k : Int)) (.min2 rfl rfl) (by rw [hk]; split <;> omega)) rfl <| WL.p (.slmT Try.underlying25 Try.sizeOf39 rfl rfl  (k) (rfl) (by omega)) rfl <| WL.call hb32 rfl rfl ((lib_Clone' _ (xs.take k) k _ _ (by omega) (hx.partT k (by omega) hlc) (fun _ => by rw [pPartM_zero]; cases p with | none => exact .inl (hpn rfl).2 | some a => exact .inr (by simp)) (by omega))) (fun q w1 hw1 => ?_)
  have hk2 := hr.below hw1.1 hr.lt
  have hB3 := KeepB.trans hB0 (KeepB.of_below hw1.1 hB0.size)
  have hq := hw1.2
  have hlq := Nat.lt_of_lt_of_le hbl hB0.size
  refine WL.p (.nck rfl) rfl <| WL.p (.fa Try.underlying57 rfl Try.sizeOf25 (by decide) rfl) rfl <| WL.st Try.sizeOf25 rfl rfl (hq).one hk2 (by first | decide | exact Nat.le_of_ble_eq_true rfl) (fun w4 hkw4 huw4 hsw4 => ?_)
  have ho5 := OwnM.touch hq huw4 (hlq)
  have hB6 := KeepB.trans hB3 (by first | exact KeepB.of_new huw4 (by omega) | exact KeepB.of_mem huw4 (by simp))
  refine WL.nil <| ?_
  refine W.norm (W.ret0 rfl ?_)
  exact ⟨rfl, _, ⟨hkw4, (ho5).base (fun g hg => by have := (hq.lt g hg).1; omega)⟩, hB6, fun g hg => .inr (hq.lt g hg).1⟩

end Go.Proofs.Ytnjalolknhepdaa
