/-
  Stacks: Swap.
-/
import Derived.Test.YtnjalolknhepdaaStkD
namespace Go.Proofs.Ytnjalolknhepdaa
open Go.RowKit

def swapL (i : Int) (o : ObjV) (l : List ObjV) (un : Int) : List ObjV := if placeE i l un = 0 then l.set (placeV i l).toNat o else l
theorem stk_Swap (b : Nat) (v : Value) (most ov un : Int) (l : List ObjV) (i : Int) (o : ObjV) (w : World) (h : StackOk w b v most ov un l) (hi : i ≤ 9223372036854775807) (hl : l.length ≤ 10000000) (hu : un ≠ 0) :
    Calls Try.prog 21 #[.pointer (some ⟨b, 0, none⟩), .int .i64 i, .agg (objV o).toArray] w fun e w' => e = .returned (.int .i64 (placeE i l un)) ∧ StackOk w' b v most ov un (swapL i o l un) ∧ KeepB w.heap.size (b :: v.ownBlock.toList) w w' := by
  obtain ⟨p', c', hv, hrow, -⟩ := h.own.row
  have hown := h.own
  have hr := h.blk
  have hbl := hr.lt
  subst hv
  refine W.enter Try.func21 rfl Try.ntmps21 (Nat.le_of_ble_eq_true rfl) ?_
  have hB0 := KeepB.refl w.heap.size (b :: (Value.slice p' l.length c').ownBlock.toList) w
  refine W.seq ?_
  refine W.reg ?_ -- 0
  refine WL.box rfl rfl (fun b1 wb1 eb1 hkb1 hub1 hsb1 => ?_)
  have ho2 := OwnM.new hown eb1 hub1
  have hl4 : b < b1 := by rw [eb1]; exact hr.lt
  have hk3 := hr.upd hub1 (Nat.ne_of_lt hl4)
  have hgeb1 : w.heap.size ≤ b1 := by rw [eb1]; exact hB0.size
  have hB5 := KeepB.trans hB0 (KeepB.of_new hub1 hgeb1)
  refine WL.p (.as rfl) rfl <| WL.nil <| ?_
  refine W.seq ?_
  refine W.reg ?_ -- 1
  refine WL.p (.mv rfl) rfl <| WL.p (.mv rfl) rfl <| WL.c1 hb33 rfl rfl ((stk_place b _ most ov un l i _ ⟨hk3, ho2⟩ hi hl)) (fun w6 hw6 => ?_)
  have ho7 := OwnM.drew ho2 hw6
  have hk8 := hk3.drew hw6
  have hk9 := hkb1.drew hw6
  have hB10 := KeepB.trans hB5 (KeepB.of_drew hw6)
  refine WL.p (.mv rfl) rfl <| WL.p (.ext rfl rfl) rfl <| WL.p (.ext rfl rfl) rfl <| WL.p (.as rfl) rfl <| WL.p (.as rfl) rfl <| WL.nil <| ?_
  refine W.seq ?_
  refine W.seq ?_
  refine W.reg ?_ -- 2
  refine WL.p (.mv rfl) rfl <| WL.p (.eql rfl rfl) rfl <| WL.nil <| ?_
  refine W.cond rfl (fun h11 => ?_) (fun h11 => ?_) -- slot 16
  · have h11' := of_decide_eq_true h11
    have hp : 0 ≤ i ∧ i < l.length := by
      have hq := show placeE i l un = 0 by assumption
      unfold placeE at hq
      split at hq
      · cases hq
      · split at hq
        · exact absurd hq hu
        · omega
    have hv : placeV i l = ((l.length - 1 - i.toNat : Nat) : Int) := by unfold placeV; rw [if_neg (by omega)]; omega
    have hsw : swapL i o l un = l.set (l.length - 1 - i.toNat) o := by unfold swapL; rw [if_pos (by assumption), hv, Int.toNat_natCast]
    have hpp := hrow.isp (by omega)
    refine W.regT 7 mixed (by kernel_rfl) (fun w12 dw12 => ?_) -- 3
    have ho13 := OwnM.drew ho7 dw12
    have hk14 := hk8.drew dw12
    have hk15 := hk9.drew dw12
    have hB16 := KeepB.trans hB10 (KeepB.of_drew dw12)
    refine WS.p (.mv rfl) rfl <| WS.p (.nck rfl) rfl <| WS.p (.fa Try.underlying57 rfl Try.sizeOf25 (by decide) rfl) rfl <| WS.r (Rd.ld (Try.isAgg25 _) rfl hk14 rfl) rfl <| WS.p (.mv rfl) rfl <| WS.r (Rd.ldA rfl hk15 Try.underlying39 rfl isz39) rfl <| WS.p (.ixm Try.underlying25 Try.sizeOf39 rfl rfl hpp (l.length - 1 - i.toNat) (by omega) (by omega)) rfl <| WS.nil ?_
    refine WL.stM (L := objL) o (l.length - 1 - i.toNat) (ho13) (by omega) isz39 rfl rfl rfl (fun wc gc hgc huc hoc => ?_)
    refine WL.nil <| ?_
    refine W.seq ?_
    refine W.reg ?_ -- 4
    refine WL.p (.mv rfl) rfl <| WL.p (.as rfl) rfl <| WL.nil <| ?_
    refine W.ret (W.ret1 rfl rfl ?_)
    first
    | exact ⟨rfl, ⟨(hk14).upd huc (by have := (hown.lt gc (by rw [hgc]; rfl)).1; omega), by rw [hsw]; exact hoc⟩, KeepB.trans hB16 (KeepB.of_mem huc (List.mem_cons_of_mem _ (Option.mem_toList.2 (by rw [hgc]; rfl))))⟩
    | exact ⟨rfl, ⟨hk14, by unfold swapL; rw [if_neg (by assumption)]; exact ho13⟩, hB16⟩
  · have h11' := of_decide_eq_false h11
    refine W.skip ?_
    refine W.seq ?_
    refine W.reg ?_ -- 4
    refine WL.p (.mv rfl) rfl <| WL.p (.as rfl) rfl <| WL.nil <| ?_
    refine W.ret (W.ret1 rfl rfl ?_)
    first
    | exact ⟨rfl, ⟨(hk8).upd huc (by have := (hown.lt gc (by rw [hgc]; rfl)).1; omega), by rw [hsw]; exact hoc⟩, KeepB.trans hB10 (KeepB.of_mem huc (List.mem_cons_of_mem _ (Option.mem_toList.2 (by rw [hgc]; rfl))))⟩
    | exact ⟨rfl, ⟨hk8, by unfold swapL; rw [if_neg (by assumption)]; exact ho7⟩, hB10⟩

end Go.Proofs.Ytnjalolknhepdaa
