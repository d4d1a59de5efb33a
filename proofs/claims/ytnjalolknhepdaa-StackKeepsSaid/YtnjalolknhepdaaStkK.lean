/-
  Stacks: a stack that is nil.
-/
import Derived.Test.YtnjalolknhepdaaStkD
namespace Go.Proofs.Ytnjalolknhepdaa
open Go.RowKit

theorem nil_check (i : Int) (w : World) : Calls Try.prog 30 #[.pointer none, .int .i64 i] w fun e w' => e = .returned (.int .i64 21) ∧ w = w' := by
  refine W.enter Try.func30 rfl Try.ntmps30 (Nat.le_of_ble_eq_true rfl) ?_
  refine W.seq ?_
  refine W.reg ?_ -- 0
  refine WL.p (.as rfl) rfl <| WL.nil <| ?_
  refine W.seq ?_
  refine W.block ?_
  refine W.seq ?_
  refine W.reg ?_ -- 1
  refine WL.p (.mv rfl) rfl <| WL.p (.eqP Try.underlying26 rfl) rfl <| WL.p (.as rfl) rfl <| WL.nil <| ?_
  refine W.condT rfl rfl ?_
  refine W.seq ?_
  refine W.reg ?_ -- 2
  refine WL.p (.as rfl) rfl <| WL.nil <| ?_
  refine W.ret (W.ret1 rfl rfl ?_)
  exact ⟨rfl, rfl⟩
theorem nil_place (i : Int) (w : World) : Calls Try.prog 33 #[.pointer none, .int .i64 i] w fun e w' => e = .returned (.tuple #[.int .i64 0, .int .i64 21]) ∧ w = w' := by
  refine W.enter Try.func33 rfl Try.ntmps33 (Nat.le_of_ble_eq_true rfl) ?_
  refine W.seq ?_
  refine W.reg ?_ -- 0
  refine WL.p (.as rfl) rfl <| WL.p (.as rfl) rfl <| WL.nil <| ?_
  refine W.seq ?_
  refine W.block ?_
  refine W.seq ?_
  refine W.reg ?_ -- 1
  refine WL.p (.mv rfl) rfl <| WL.p (.eqP Try.underlying26 rfl) rfl <| WL.p (.as rfl) rfl <| WL.nil <| ?_
  refine W.condT rfl rfl ?_
  refine W.seq ?_
  refine W.reg ?_ -- 2
  refine WL.p (.as rfl) rfl <| WL.p (.as rfl) rfl <| WL.nil <| ?_
  refine W.ret (W.ret2 rfl rfl rfl ?_)
  exact ⟨rfl, rfl⟩
theorem nil_Len (w : World) : Calls Try.prog 26 #[.pointer none] w fun e w' => e = .returned (.int .i64 0) ∧ w = w' := by
  refine W.enter Try.func26 rfl Try.ntmps26 (Nat.le_of_ble_eq_true rfl) ?_
  refine W.seq ?_
  refine W.reg ?_ -- 0
  refine WL.p (.as rfl) rfl <| WL.nil <| ?_
  refine W.seq ?_
  refine W.seq ?_
  refine W.reg ?_ -- 1
  refine WL.p (.mv rfl) rfl <| WL.p (.eqP Try.underlying26 rfl) rfl <| WL.nil <| ?_
  refine W.condT rfl rfl ?_
  refine W.seq ?_
  refine W.reg ?_ -- 2
  refine WL.p (.as rfl) rfl <| WL.nil <| ?_
  refine W.ret (W.ret1 rfl rfl ?_)
  exact ⟨rfl, rfl⟩
theorem nil_All (w : World) : Calls Try.prog 17 #[.pointer none] w fun e w' => e = .returned (.slice none 0 0) ∧ w = w' := by
  refine W.enter Try.func17 rfl Try.ntmps17 (Nat.le_of_ble_eq_true rfl) ?_
  refine W.seq ?_
  refine W.reg ?_ -- 0
  refine WL.p (.as rfl) rfl <| WL.nil <| ?_
  refine W.seq ?_
  refine W.seq ?_
  refine W.reg ?_ -- 1
  refine WL.p (.mv rfl) rfl <| WL.p (.eqP Try.underlying26 rfl) rfl <| WL.nil <| ?_
  refine W.condT rfl rfl ?_
  refine W.seq ?_
  refine W.reg ?_ -- 2
  refine WL.p (.as rfl) rfl <| WL.nil <| ?_
  refine W.ret (W.ret1 rfl rfl ?_)
  exact ⟨rfl, rfl⟩
theorem nil_ToMark (w : World) : Calls Try.prog 22 #[.pointer none] w fun e w' => e = .returned (.tuple #[.int .i64 0, .int .i64 21]) ∧ w = w' := by
  refine W.enter Try.func22 rfl Try.ntmps22 (Nat.le_of_ble_eq_true rfl) ?_
  refine W.seq ?_
  refine W.reg ?_ -- 0
  refine WL.p (.as rfl) rfl <| WL.p (.as rfl) rfl <| WL.nil <| ?_
  refine W.seq ?_
  refine W.seq ?_
  refine W.reg ?_ -- 1
  refine WL.p (.mv rfl) rfl <| WL.p (.eqP Try.underlying26 rfl) rfl <| WL.nil <| ?_
  refine W.condT rfl rfl ?_
  refine W.seq ?_
  refine W.reg ?_ -- 2
  refine WL.p (.as rfl) rfl <| WL.p (.as rfl) rfl <| WL.nil <| ?_
  refine W.ret (W.ret2 rfl rfl rfl ?_)
  exact ⟨rfl, rfl⟩
theorem nil_Reset (v : Value) (w : World) : Calls Try.prog 23 #[.pointer none, v] w fun e w' => e = .returned (.tuple #[]) ∧ w = w' := by
  refine W.enter Try.func23 rfl Try.ntmps23 (Nat.le_of_ble_eq_true rfl) ?_
  refine W.seq ?_
  refine W.reg ?_ -- 0
  refine WL.p (.mv rfl) rfl <| WL.p (.neP Try.underlying26 rfl) rfl <| WL.nil <| ?_
  refine W.condF rfl rfl ?_
  refine W.skip ?_
  refine W.norm (W.ret0 rfl ?_)
  exact ⟨rfl, rfl⟩
theorem nil_Push (v : Value) (w : World) : Calls Try.prog 14 #[.pointer none, v] w fun e w' => e = .returned (.int .i64 21) ∧ w = w' := by
  refine W.enter Try.func14 rfl Try.ntmps14 (Nat.le_of_ble_eq_true rfl) ?_
  refine W.seq ?_
  refine W.reg ?_ -- 0
  refine WL.p (.as rfl) rfl <| WL.nil <| ?_
  refine W.seq ?_
  refine W.block ?_
  refine W.seq ?_
  refine W.reg ?_ -- 1
  refine WL.p (.mv rfl) rfl <| WL.p (.eqP Try.underlying26 rfl) rfl <| WL.p (.as rfl) rfl <| WL.nil <| ?_
  refine W.condT rfl rfl ?_
  refine W.seq ?_
  refine W.reg ?_ -- 2
  refine WL.p (.as rfl) rfl <| WL.nil <| ?_
  refine W.ret (W.ret1 rfl rfl ?_)
  exact ⟨rfl, rfl⟩

theorem nil_Take (i : Int) (w : World) : Calls Try.prog 19 #[.pointer none, .int .i64 i] w fun e w' => e = .returned (.tuple #[.slice none 0 0, .int .i64 21]) ∧ w = w' := by
  refine W.enter Try.func19 rfl Try.ntmps19 (Nat.le_of_ble_eq_true rfl) ?_
  refine W.seq ?_
  refine W.reg ?_ -- 0
  refine WL.p (.as rfl) rfl <| WL.p (.as rfl) rfl <| WL.nil <| ?_
  refine W.seq ?_
  refine W.seq ?_
  refine W.reg ?_ -- 1
  refine WL.p (.mv rfl) rfl <| WL.p (.mv rfl) rfl <| WL.c1 hb30 rfl rfl ((nil_check i _)) (fun w1 hw1 => ?_)
  obtain rfl := hw1
  refine WL.p (.as rfl) rfl <| WL.nil <| ?_
  refine W.seq ?_
  refine W.reg ?_ -- 2
  refine WL.p (.mv rfl) rfl <| WL.p (.neq rfl rfl) rfl <| WL.nil <| ?_
  refine W.condT rfl rfl ?_
  refine W.seq ?_
  refine W.reg ?_ -- 3
  refine WL.p (.mv rfl) rfl <| WL.p (.as rfl) rfl <| WL.p (.as rfl) rfl <| WL.nil <| ?_
  refine W.ret (W.ret2 rfl rfl rfl ?_)
  exact ⟨rfl, rfl⟩
theorem nil_Roll (i j : Int) (w : World) : Calls Try.prog 15 #[.pointer none, .int .i64 i, .int .i64 j] w fun e w' => e = .returned (.int .i64 21) ∧ w = w' := by
  refine W.enter Try.func15 rfl Try.ntmps15 (Nat.le_of_ble_eq_true rfl) ?_
  refine W.seq ?_
  refine W.reg ?_ -- 0
  refine WL.p (.as rfl) rfl <| WL.nil <| ?_
  refine W.seq ?_
  refine W.seq ?_
  refine W.reg ?_ -- 1
  refine WL.p (.mv rfl) rfl <| WL.p (.mv rfl) rfl <| WL.c1 hb30 rfl rfl ((nil_check i _)) (fun w1 hw1 => ?_)
  obtain rfl := hw1
  refine WL.p (.as rfl) rfl <| WL.nil <| ?_
  refine W.seq ?_
  refine W.reg ?_ -- 2
  refine WL.p (.mv rfl) rfl <| WL.p (.neq rfl rfl) rfl <| WL.p (.mv rfl) rfl <| WL.gn rfl rfl rfl rfl <| WL.gn rfl rfl rfl rfl <| WL.p (.pkT rfl rfl rfl) rfl <| WL.nil <| ?_
  refine W.condT rfl rfl ?_
  refine W.seq ?_
  refine W.reg ?_ -- 3
  refine WL.p (.mv rfl) rfl <| WL.p (.as rfl) rfl <| WL.nil <| ?_
  refine W.ret (W.ret1 rfl rfl ?_)
  exact ⟨rfl, rfl⟩
theorem nil_Need (p : Option Addr) (n c : Nat) (w : World) : Calls Try.prog 24 #[.pointer none, .slice p n c] w fun e w' => e = .returned (.int .i64 21) ∧ w = w' := by
  refine W.enter Try.func24 rfl Try.ntmps24 (Nat.le_of_ble_eq_true rfl) ?_
  refine W.seq ?_
  refine W.reg ?_ -- 0
  refine WL.p (.as rfl) rfl <| WL.nil <| ?_
  refine W.seq ?_
  refine W.seq ?_
  refine W.reg ?_ -- 1
  refine WL.p (.mv rfl) rfl <| WL.p (.mv rfl) rfl <| WL.p (.lenS Try.underlying35 rfl) rfl <| WL.c1 hb30 rfl rfl ((nil_check n _)) (fun w1 hw1 => ?_)
  obtain rfl := hw1
  refine WL.p (.as rfl) rfl <| WL.nil <| ?_
  refine W.seq ?_
  refine W.reg ?_ -- 2
  refine WL.p (.mv rfl) rfl <| WL.p (.neq rfl rfl) rfl <| WL.nil <| ?_
  refine W.condT rfl rfl ?_
  refine W.seq ?_
  refine W.reg ?_ -- 3
  refine WL.p (.mv rfl) rfl <| WL.p (.as rfl) rfl <| WL.nil <| ?_
  refine W.ret (W.ret1 rfl rfl ?_)
  exact ⟨rfl, rfl⟩
theorem nil_Pop (w : World) : Calls Try.prog 18 #[.pointer none] w fun e w' => e = .returned (.tuple #[.agg (objV objZ).toArray, .int .i64 21]) ∧ Below w.heap.size w w' := by
  refine W.enter Try.func18 rfl Try.ntmps18 (Nat.le_of_ble_eq_true rfl) ?_
  have hB0 := Below.refl (w.heap.size) w
  refine W.seq ?_
  refine W.reg ?_ -- 0
  refine WL.alloc Try.zeroValue39 rfl (fun b1 wb1 eb1 hkb1 hub1 hsb1 => ?_)
  have hB2 := Upd.below hB0 (by rw [eb1]; exact hB0.size) hub1
  have hgeb1 : w.heap.size ≤ b1 := by rw [eb1]; exact hB0.size
  refine WL.p (.as rfl) rfl <| WL.nil <| ?_
  refine W.seq ?_
  refine W.reg ?_ -- 1
  refine WL.p (.mv rfl) rfl <| WL.c1 hb19 rfl rfl ((nil_Take 1 _)) (fun w3 hw3 => ?_)
  obtain rfl := hw3
  refine WL.p (.mv rfl) rfl <| WL.p (.ext rfl rfl) rfl <| WL.p (.ext rfl rfl) rfl <| WL.p (.as rfl) rfl <| WL.p (.as rfl) rfl <| WL.nil <| ?_
  refine W.seq ?_
  refine W.seq ?_
  refine W.reg ?_ -- 2
  refine WL.p (.mv rfl) rfl <| WL.p (.neq rfl rfl) rfl <| WL.nil <| ?_
  refine W.condT rfl rfl ?_
  refine W.seq ?_
  refine W.reg ?_ -- 3
  refine WL.p (.buildL (ps := _) blt39 rfl rfl rfl (by simp only [put1, List.map, List.zip, List.zipWith] <;> rfl)) rfl ?_
  refine WL.p (.mv rfl) rfl <| WL.stL rfl rfl hkb1 isz39 rfl rfl (fun w4 hkw4 huw4 hsw4 => ?_)
  have hB5 := Upd.below hB2 (by omega) huw4
  refine WL.p (.as rfl) rfl <| WL.nil <| ?_
  refine W.ret (W.retc2 rfl rfl (ldRow hkw4 Try.underlying39 rfl isz39) rfl ?_)
  exact ⟨rfl, hB5⟩
theorem nil_Top (i : Int) (w : World) : Calls Try.prog 20 #[.pointer none, .int .i64 i] w fun e w' => e = .returned (.tuple #[.agg (objV objZ).toArray, .int .i64 21]) ∧ Below w.heap.size w w' := by
  refine W.enter Try.func20 rfl Try.ntmps20 (Nat.le_of_ble_eq_true rfl) ?_
  have hB0 := Below.refl (w.heap.size) w
  refine W.seq ?_
  refine W.reg ?_ -- 0
  refine WL.alloc Try.zeroValue39 rfl (fun b1 wb1 eb1 hkb1 hub1 hsb1 => ?_)
  have hB2 := Upd.below hB0 (by rw [eb1]; exact hB0.size) hub1
  have hgeb1 : w.heap.size ≤ b1 := by rw [eb1]; exact hB0.size
  refine WL.p (.as rfl) rfl <| WL.nil <| ?_
  refine W.seq ?_
  refine W.reg ?_ -- 1
  refine WL.p (.mv rfl) rfl <| WL.p (.mv rfl) rfl <| WL.c1 hb33 rfl rfl ((nil_place i _)) (fun w3 hw3 => ?_)
  obtain rfl := hw3
  refine WL.p (.mv rfl) rfl <| WL.p (.ext rfl rfl) rfl <| WL.p (.ext rfl rfl) rfl <| WL.p (.as rfl) rfl <| WL.p (.as rfl) rfl <| WL.nil <| ?_
  refine W.seq ?_
  refine W.seq ?_
  refine W.reg ?_ -- 2
  refine WL.p (.mv rfl) rfl <| WL.p (.neq rfl rfl) rfl <| WL.nil <| ?_
  refine W.condT rfl rfl ?_
  refine W.seq ?_
  refine W.reg ?_ -- 3
  refine WL.p (.buildL (ps := _) blt39 rfl rfl rfl (by simp only [put1, List.map, List.zip, List.zipWith] <;> rfl)) rfl ?_
  refine WL.p (.mv rfl) rfl <| WL.stL rfl rfl hkb1 isz39 rfl rfl (fun w4 hkw4 huw4 hsw4 => ?_)
  have hB5 := Upd.below hB2 (by omega) huw4
  refine WL.p (.as rfl) rfl <| WL.nil <| ?_
  refine W.ret (W.retc2 rfl rfl (ldRow hkw4 Try.underlying39 rfl isz39) rfl ?_)
  exact ⟨rfl, hB5⟩
theorem nil_Swap (i : Int) (o : ObjV) (w : World) : Calls Try.prog 21 #[.pointer none, .int .i64 i, .agg (objV o).toArray] w fun e w' => e = .returned (.int .i64 21) ∧ Below w.heap.size w w' := by
  refine W.enter Try.func21 rfl Try.ntmps21 (Nat.le_of_ble_eq_true rfl) ?_
  have hB0 := Below.refl (w.heap.size) w
  refine W.seq ?_
  refine W.reg ?_ -- 0
  refine WL.box rfl rfl (fun b1 wb1 eb1 hkb1 hub1 hsb1 => ?_)
  have hB2 := Upd.below hB0 (by rw [eb1]; exact hB0.size) hub1
  have hgeb1 : w.heap.size ≤ b1 := by rw [eb1]; exact hB0.size
  refine WL.p (.as rfl) rfl <| WL.nil <| ?_
  refine W.seq ?_
  refine W.reg ?_ -- 1
  refine WL.p (.mv rfl) rfl <| WL.p (.mv rfl) rfl <| WL.c1 hb33 rfl rfl ((nil_place i _)) (fun w3 hw3 => ?_)
  obtain rfl := hw3
  refine WL.p (.mv rfl) rfl <| WL.p (.ext rfl rfl) rfl <| WL.p (.ext rfl rfl) rfl <| WL.p (.as rfl) rfl <| WL.p (.as rfl) rfl <| WL.nil <| ?_
  refine W.seq ?_
  refine W.seq ?_
  refine W.reg ?_ -- 2
  refine WL.p (.mv rfl) rfl <| WL.p (.eql rfl rfl) rfl <| WL.nil <| ?_
  refine W.condF rfl rfl ?_
  refine W.skip ?_
  refine W.seq ?_
  refine W.reg ?_ -- 4
  refine WL.p (.mv rfl) rfl <| WL.p (.as rfl) rfl <| WL.nil <| ?_
  refine W.ret (W.ret1 rfl rfl ?_)
  exact ⟨rfl, hB2⟩

end Go.Proofs.Ytnjalolknhepdaa
