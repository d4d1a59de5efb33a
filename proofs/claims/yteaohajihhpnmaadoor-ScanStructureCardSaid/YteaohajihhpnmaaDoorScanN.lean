/-
  Scan: the program's reader, second part.
-/
import Derived.Test.YteaohajihhpnmaaDoorScanM
namespace Go.Proofs.YteaohajihhpnmaaDoor
open Go.RowKit

/-- a hexadecimal digit's number, or -1 -/
def digI (c : UInt8) : Int := match hexD c with | some d => (d : Int) | none => -1
theorem digI_cases (c : UInt8) : digI c = -1 ∧ 15 < hexN c ∨ digI c = hexN c ∧ hexN c < 16 := by
  unfold digI hexD
  by_cases h : hexN c < 16
  · rw [if_pos h]; exact Or.inr ⟨rfl, h⟩
  · rw [if_neg h]; exact Or.inl ⟨rfl, by omega⟩
theorem scan_digit (c : UInt8) (w : World) :
    Calls Tryd.prog 118 #[.int .u8 (c.toNat : Int)] w fun e w' => e = .returned (.int .i64 (digI c)) ∧ w = w' := by
  obtain ⟨R, hR⟩ : ∃ R : Int, R = digI c := ⟨_, rfl⟩
  rw [← hR]
  have hR' : R = if 48 ≤ c.toNat ∧ c.toNat ≤ 57 then (c.toNat : Int) - 48 else if 97 ≤ c.toNat ∧ c.toNat ≤ 102 then (c.toNat : Int) - 87 else if 65 ≤ c.toNat ∧ c.toNat ≤ 70 then (c.toNat : Int) - 55 else -1 := by
    rw [hR]; unfold digI hexD
    by_cases h1 : 48 ≤ c.toNat ∧ c.toNat ≤ 57
    · rw [show hexN c = c.toNat - 48 by unfold hexN; rw [if_pos h1], if_pos (by omega), if_pos h1]; show ((c.toNat - 48 : Nat) : Int) = _; omega
    · rw [if_neg h1]
      by_cases h2 : 97 ≤ c.toNat ∧ c.toNat ≤ 102
      · rw [show hexN c = c.toNat - 87 by unfold hexN; rw [if_neg h1, if_pos (by omega)], if_pos (by omega), if_pos h2]; show ((c.toNat - 87 : Nat) : Int) = _; omega
      · rw [if_neg h2]
        by_cases h3 : 65 ≤ c.toNat ∧ c.toNat ≤ 70
        · rw [show hexN c = c.toNat - 55 by unfold hexN; rw [if_neg h1, if_neg (by omega), if_pos (by omega)], if_pos (by omega), if_pos h3]; show ((c.toNat - 55 : Nat) : Int) = _; omega
        · rw [if_neg h3, if_neg]
          unfold hexN; rw [if_neg h1]
          split
          · omega
          · split <;> omega
  have hc : c.toNat < 256 := UInt8.toNat_lt c
  refine W.enter Tryd.func118 rfl Tryd.ntmps118 (Nat.le_of_ble_eq_true rfl) ?_
  refine W.seq ?_
  refine W.reg ?_ -- 0
  refine WL.p (.as rfl) rfl <| WL.nil <| ?_
  refine W.seq ?_
  refine W.block ?_
  refine W.seq ?_
  refine W.reg ?_ -- 1
  refine WL.p (.mv rfl) rfl <| WL.p (.geq rfl rfl) rfl <| WL.p (.mv rfl) rfl <| WL.gd rfl rfl rfl (fun g1 => ?_) (fun g1 => ?_)
  · have g1' := of_decide_eq_true g1
    refine WL.p (.mv rfl) rfl <| WL.gy rfl rfl rfl g1 <| WL.p (.leq rfl rfl) rfl <| WL.p (.pkT rfl g1 rfl) rfl <| WL.p (.as rfl) rfl <| WL.nil <| ?_
    refine W.cond rfl (fun h2 => ?_) (fun h2 => ?_) -- slot 3
    · have h2' := of_decide_eq_true h2
      refine W.seq ?_
      refine W.reg ?_ -- 2
      refine WL.p (.mv rfl) rfl <| WL.p (.sub rfl rfl (u8w (by omega))) rfl <| WL.p (.cvt Tryd.underlying5 Tryd.underlying3 rfl (i64w (by omega))) rfl <| WL.p (.as rfl) rfl <| WL.nil <| ?_
      refine W.ret (W.ret1 rfl rfl ?_)
      exact ⟨ret_int (by rw [hR']; (repeat' split) <;> omega), rfl⟩
    · have h2' := of_decide_eq_false h2
      refine W.seq ?_
      refine W.reg ?_ -- 3
      refine WL.p (.mv rfl) rfl <| WL.p (.geq rfl rfl) rfl <| WL.p (.mv rfl) rfl <| WL.gd rfl rfl rfl (fun g3 => ?_) (fun g3 => ?_)
      · have g3' := of_decide_eq_true g3
        refine WL.p (.mv rfl) rfl <| WL.gy rfl rfl rfl g3 <| WL.p (.leq rfl rfl) rfl <| WL.p (.pkT rfl g3 rfl) rfl <| WL.p (.as rfl) rfl <| WL.nil <| ?_
        refine W.cond rfl (fun h4 => ?_) (fun h4 => ?_) -- slot 13
        · have h4' := of_decide_eq_true h4
          refine W.seq ?_
          refine W.reg ?_ -- 4
          refine WL.p (.mv rfl) rfl <| WL.p (.sub rfl rfl (u8w (by omega))) rfl <| WL.p (.cvt Tryd.underlying5 Tryd.underlying3 rfl (i64w (by omega))) rfl <| WL.p (.add rfl rfl (i64w (by omega))) rfl <| WL.p (.as rfl) rfl <| WL.nil <| ?_
          refine W.ret (W.ret1 rfl rfl ?_)
          exact ⟨ret_int (by rw [hR']; (repeat' split) <;> omega), rfl⟩
        · have h4' := of_decide_eq_false h4
          refine W.seq ?_
          refine W.reg ?_ -- 5
          refine WL.p (.mv rfl) rfl <| WL.p (.geq rfl rfl) rfl <| WL.p (.mv rfl) rfl <| WL.gd rfl rfl rfl (fun g5 => ?_) (fun g5 => ?_)
          · have g5' := of_decide_eq_true g5
            refine WL.p (.mv rfl) rfl <| WL.gy rfl rfl rfl g5 <| WL.p (.leq rfl rfl) rfl <| WL.p (.pkT rfl g5 rfl) rfl <| WL.p (.as rfl) rfl <| WL.nil <| ?_
            refine W.cond rfl (fun h6 => ?_) (fun h6 => ?_) -- slot 24
            · have h6' := of_decide_eq_true h6
              refine W.seq ?_
              refine W.reg ?_ -- 6
              refine WL.p (.mv rfl) rfl <| WL.p (.sub rfl rfl (u8w (by omega))) rfl <| WL.p (.cvt Tryd.underlying5 Tryd.underlying3 rfl (i64w (by omega))) rfl <| WL.p (.add rfl rfl (i64w (by omega))) rfl <| WL.p (.as rfl) rfl <| WL.nil <| ?_
              refine W.ret (W.ret1 rfl rfl ?_)
              exact ⟨ret_int (by rw [hR']; (repeat' split) <;> omega), rfl⟩
            · have h6' := of_decide_eq_false h6
              refine W.skip ?_
              refine W.seq ?_
              refine W.reg ?_ -- 7
              refine WL.p (.as rfl) rfl <| WL.nil <| ?_
              refine W.ret (W.ret1 rfl rfl ?_)
              exact ⟨ret_int (by rw [hR']; (repeat' split) <;> omega), rfl⟩
          · have g5' := of_decide_eq_false g5
            refine WL.gn rfl rfl rfl g5 <| WL.p (.pkF rfl g5 rfl) rfl <| WL.p (.as rfl) rfl <| WL.nil <| ?_
            refine W.condF rfl rfl ?_
            refine W.skip ?_
            refine W.seq ?_
            refine W.reg ?_ -- 7
            refine WL.p (.as rfl) rfl <| WL.nil <| ?_
            refine W.ret (W.ret1 rfl rfl ?_)
            exact ⟨ret_int (by rw [hR']; (repeat' split) <;> omega), rfl⟩
      · have g3' := of_decide_eq_false g3
        refine WL.gn rfl rfl rfl g3 <| WL.p (.pkF rfl g3 rfl) rfl <| WL.p (.as rfl) rfl <| WL.nil <| ?_
        refine W.condF rfl rfl ?_
        refine W.seq ?_
        refine W.reg ?_ -- 5
        refine WL.p (.mv rfl) rfl <| WL.p (.geq rfl rfl) rfl <| WL.p (.mv rfl) rfl <| WL.gd rfl rfl rfl (fun g7 => ?_) (fun g7 => ?_)
        · have g7' := of_decide_eq_true g7
          refine WL.p (.mv rfl) rfl <| WL.gy rfl rfl rfl g7 <| WL.p (.leq rfl rfl) rfl <| WL.p (.pkT rfl g7 rfl) rfl <| WL.p (.as rfl) rfl <| WL.nil <| ?_
          refine W.cond rfl (fun h8 => ?_) (fun h8 => ?_) -- slot 24
          · have h8' := of_decide_eq_true h8
            refine W.seq ?_
            refine W.reg ?_ -- 6
            refine WL.p (.mv rfl) rfl <| WL.p (.sub rfl rfl (u8w (by omega))) rfl <| WL.p (.cvt Tryd.underlying5 Tryd.underlying3 rfl (i64w (by omega))) rfl <| WL.p (.add rfl rfl (i64w (by omega))) rfl <| WL.p (.as rfl) rfl <| WL.nil <| ?_
            refine W.ret (W.ret1 rfl rfl ?_)
            exact ⟨ret_int (by rw [hR']; (repeat' split) <;> omega), rfl⟩
          · have h8' := of_decide_eq_false h8
            refine W.skip ?_
            refine W.seq ?_
            refine W.reg ?_ -- 7
            refine WL.p (.as rfl) rfl <| WL.nil <| ?_
            refine W.ret (W.ret1 rfl rfl ?_)
            exact ⟨ret_int (by rw [hR']; (repeat' split) <;> omega), rfl⟩
        · have g7' := of_decide_eq_false g7
          refine WL.gn rfl rfl rfl g7 <| WL.p (.pkF rfl g7 rfl) rfl <| WL.p (.as rfl) rfl <| WL.nil <| ?_
          refine W.condF rfl rfl ?_
          refine W.skip ?_
          refine W.seq ?_
          refine W.reg ?_ -- 7
          refine WL.p (.as rfl) rfl <| WL.nil <| ?_
          refine W.ret (W.ret1 rfl rfl ?_)
          exact ⟨ret_int (by rw [hR']; (repeat' split) <;> omega), rfl⟩
  · have g1' := of_decide_eq_false g1
    refine WL.gn rfl rfl rfl g1 <| WL.p (.pkF rfl g1 rfl) rfl <| WL.p (.as rfl) rfl <| WL.nil <| ?_
    refine W.condF rfl rfl ?_
    refine W.seq ?_
    refine W.reg ?_ -- 3
    refine WL.p (.mv rfl) rfl <| WL.p (.geq rfl rfl) rfl <| WL.p (.mv rfl) rfl <| WL.gd rfl rfl rfl (fun g9 => ?_) (fun g9 => ?_)
    · have g9' := of_decide_eq_true g9
      refine WL.p (.mv rfl) rfl <| WL.gy rfl rfl rfl g9 <| WL.p (.leq rfl rfl) rfl <| WL.p (.pkT rfl g9 rfl) rfl <| WL.p (.as rfl) rfl <| WL.nil <| ?_
      refine W.cond rfl (fun h10 => ?_) (fun h10 => ?_) -- slot 13
      · have h10' := of_decide_eq_true h10
        refine W.seq ?_
        refine W.reg ?_ -- 4
        refine WL.p (.mv rfl) rfl <| WL.p (.sub rfl rfl (u8w (by omega))) rfl <| WL.p (.cvt Tryd.underlying5 Tryd.underlying3 rfl (i64w (by omega))) rfl <| WL.p (.add rfl rfl (i64w (by omega))) rfl <| WL.p (.as rfl) rfl <| WL.nil <| ?_
        refine W.ret (W.ret1 rfl rfl ?_)
        exact ⟨ret_int (by rw [hR']; (repeat' split) <;> omega), rfl⟩
      · have h10' := of_decide_eq_false h10
        refine W.seq ?_
        refine W.reg ?_ -- 5
        refine WL.p (.mv rfl) rfl <| WL.p (.geq rfl rfl) rfl <| WL.p (.mv rfl) rfl <| WL.gd rfl rfl rfl (fun g11 => ?_) (fun g11 => ?_)
        · have g11' := of_decide_eq_true g11
          refine WL.p (.mv rfl) rfl <| WL.gy rfl rfl rfl g11 <| WL.p (.leq rfl rfl) rfl <| WL.p (.pkT rfl g11 rfl) rfl <| WL.p (.as rfl) rfl <| WL.nil <| ?_
          refine W.cond rfl (fun h12 => ?_) (fun h12 => ?_) -- slot 24
          · have h12' := of_decide_eq_true h12
            refine W.seq ?_
            refine W.reg ?_ -- 6
            refine WL.p (.mv rfl) rfl <| WL.p (.sub rfl rfl (u8w (by omega))) rfl <| WL.p (.cvt Tryd.underlying5 Tryd.underlying3 rfl (i64w (by omega))) rfl <| WL.p (.add rfl rfl (i64w (by omega))) rfl <| WL.p (.as rfl) rfl <| WL.nil <| ?_
            refine W.ret (W.ret1 rfl rfl ?_)
            exact ⟨ret_int (by rw [hR']; (repeat' split) <;> omega), rfl⟩
          · have h12' := of_decide_eq_false h12
            refine W.skip ?_
            refine W.seq ?_
            refine W.reg ?_ -- 7
            refine WL.p (.as rfl) rfl <| WL.nil <| ?_
            refine W.ret (W.ret1 rfl rfl ?_)
            exact ⟨ret_int (by rw [hR']; (repeat' split) <;> omega), rfl⟩
        · have g11' := of_decide_eq_false g11
          refine WL.gn rfl rfl rfl g11 <| WL.p (.pkF rfl g11 rfl) rfl <| WL.p (.as rfl) rfl <| WL.nil <| ?_
          refine W.condF rfl rfl ?_
          refine W.skip ?_
          refine W.seq ?_
          refine W.reg ?_ -- 7
          refine WL.p (.as rfl) rfl <| WL.nil <| ?_
          refine W.ret (W.ret1 rfl rfl ?_)
          exact ⟨ret_int (by rw [hR']; (repeat' split) <;> omega), rfl⟩
    · have g9' := of_decide_eq_false g9
      refine WL.gn rfl rfl rfl g9 <| WL.p (.pkF rfl g9 rfl) rfl <| WL.p (.as rfl) rfl <| WL.nil <| ?_
      refine W.condF rfl rfl ?_
      refine W.seq ?_
      refine W.reg ?_ -- 5
      refine WL.p (.mv rfl) rfl <| WL.p (.geq rfl rfl) rfl <| WL.p (.mv rfl) rfl <| WL.gd rfl rfl rfl (fun g13 => ?_) (fun g13 => ?_)
      · have g13' := of_decide_eq_true g13
        refine WL.p (.mv rfl) rfl <| WL.gy rfl rfl rfl g13 <| WL.p (.leq rfl rfl) rfl <| WL.p (.pkT rfl g13 rfl) rfl <| WL.p (.as rfl) rfl <| WL.nil <| ?_
        refine W.cond rfl (fun h14 => ?_) (fun h14 => ?_) -- slot 24
        · have h14' := of_decide_eq_true h14
          refine W.seq ?_
          refine W.reg ?_ -- 6
          refine WL.p (.mv rfl) rfl <| WL.p (.sub rfl rfl (u8w (by omega))) rfl <| WL.p (.cvt Tryd.underlying5 Tryd.underlying3 rfl (i64w (by omega))) rfl <| WL.p (.add rfl rfl (i64w (by omega))) rfl <| WL.p (.as rfl) rfl <| WL.nil <| ?_
          refine W.ret (W.ret1 rfl rfl ?_)
          exact ⟨ret_int (by rw [hR']; (repeat' split) <;> omega), rfl⟩
        · have h14' := of_decide_eq_false h14
          refine W.skip ?_
          refine W.seq ?_
          refine W.reg ?_ -- 7
          refine WL.p (.as rfl) rfl <| WL.nil <| ?_
          refine W.ret (W.ret1 rfl rfl ?_)
          exact ⟨ret_int (by rw [hR']; (repeat' split) <;> omega), rfl⟩
      · have g13' := of_decide_eq_false g13
        refine WL.gn rfl rfl rfl g13 <| WL.p (.pkF rfl g13 rfl) rfl <| WL.p (.as rfl) rfl <| WL.nil <| ?_
        refine W.condF rfl rfl ?_
        refine W.skip ?_
        refine W.seq ?_
        refine W.reg ?_ -- 7
        refine WL.p (.as rfl) rfl <| WL.nil <| ?_
        refine W.ret (W.ret1 rfl rfl ?_)
        exact ⟨ret_int (by rw [hR']; (repeat' split) <;> omega), rfl⟩

theorem scan_name (k : Int) (s : List UInt8) (w : World) (hs : s.length ≤ 1000000) :
    Calls Tryd.prog 81 #[.int .i64 k, .string (bs s)] w (Ends 28 (if 127 < s.length then .error 9 else .ok (⟨k, 0, s⟩ : TokV)) TokV.val (fun _ w' => Below w.heap.size w w') (fun w' => Below w.heap.size w w')) := by
  refine W.enter Tryd.func81 rfl Tryd.ntmps81 (Nat.le_of_ble_eq_true rfl) ?_
  have hB0 := Below.refl w.heap.size w
  refine W.seq ?_
  refine W.reg ?_ -- 0
  refine WL.alloc Tryd.zeroValue27 rfl (fun b1 wb1 eb1 hkb1 hub1 hsb1 => ?_)
  have hB2 := Upd.below hB0 (by rw [eb1]; exact hB0.size) hub1
  have hgeb1 : w.heap.size ≤ b1 := by rw [eb1]; exact hB0.size
  refine WL.nil <| ?_
  refine W.seq ?_
  refine W.seq ?_
  refine W.reg ?_ -- 1
  refine WL.p (.mv rfl) rfl <| WL.p (.len Tryd.underlying9 rfl) rfl <| WL.p (.gtr rfl rfl) rfl <| WL.nil <| ?_
  refine W.cond rfl (fun h3 => ?_) (fun h3 => ?_) -- slot 7
  · have h3' := of_decide_eq_true h3
    refine W.reg ?_ -- 2
    refine WL.p (.mkI Tryd.underlying28 rfl) rfl <| WL.panic rfl (pn_is ?_)
    exact Ends.err 9 (by rw [if_pos (by omega)]) hB2
  · have h3' := of_decide_eq_false h3
    refine W.skip ?_
    refine W.seq ?_
    refine W.reg ?_ -- 3
    refine WL.p (.mv rfl) rfl <| WL.p (.mv rfl) rfl <| ?_
    refine WL.p (.buildL (ps := _) blt27 rfl rfl rfl (by simp only [put1, List.map, List.zip, List.zipWith, List.set] <;> rfl)) rfl ?_
    refine WL.stL rfl rfl hkb1 isz27 rfl rfl (fun w4 hkw4 huw4 hsw4 => ?_)
    have hB5 := Upd.below hB2 (by omega) huw4
    refine WL.nil <| ?_
    refine W.ret (W.retc1 rfl rfl (ldRow hkw4 Tryd.underlying27 rfl isz27)  ?_)
    exact Ends.ok ⟨k, 0, s⟩ (by rw [if_neg (by omega)]) rfl hB5
theorem scan_text (p : Option Addr) (s : List UInt8) (c : Nat) (w : World) (hb : BytesAt w p s) (hs : s.length ≤ 1000000) :
    Calls Tryd.prog 103 #[.slice p s.length c] w (Ends 28 (if 65535 < s.length then .error 9 else .ok (⟨6, 0, s⟩ : TokV)) TokV.val (fun _ w' => Below w.heap.size w w') (fun w' => Below w.heap.size w w')) := by
  refine W.enter Tryd.func103 rfl Tryd.ntmps103 (Nat.le_of_ble_eq_true rfl) ?_
  have hB0 := Below.refl w.heap.size w
  refine W.seq ?_
  refine W.reg ?_ -- 0
  refine WL.alloc Tryd.zeroValue27 rfl (fun b1 wb1 eb1 hkb1 hub1 hsb1 => ?_)
  have hvl3 := fun h0 => eb1 ▸ hb.lt h0
  have hv2 := BytesAt.upd hb hub1 (fun h0 => Nat.ne_of_lt (hvl3 h0))
  have hB4 := Upd.below hB0 (by rw [eb1]; exact hB0.size) hub1
  have hgeb1 : w.heap.size ≤ b1 := by rw [eb1]; exact hB0.size
  refine WL.nil <| ?_
  refine W.seq ?_
  refine W.seq ?_
  refine W.reg ?_ -- 1
  refine WL.p (.mv rfl) rfl <| WL.p (.lenS Tryd.underlying32 rfl) rfl <| WL.p (.gtr rfl rfl) rfl <| WL.nil <| ?_
  refine W.cond rfl (fun h5 => ?_) (fun h5 => ?_) -- slot 5
  · have h5' := of_decide_eq_true h5
    refine W.reg ?_ -- 2
    refine WL.p (.mkI Tryd.underlying28 rfl) rfl <| WL.panic rfl (pn_is ?_)
    exact Ends.err 9 (by rw [if_pos (by omega)]) hB4
  · have h5' := of_decide_eq_false h5
    refine W.skip ?_
    refine W.seq ?_
    refine W.reg ?_ -- 3
    refine WL.p (.mv rfl) rfl <| WL.r (Rd.b2s (l := s) Tryd.underlying32 Tryd.underlying5 Tryd.underlying9 rfl (hv2)) rfl <| ?_
    refine WL.p (.buildL (ps := _) blt27 rfl rfl rfl (by simp only [put1, List.map, List.zip, List.zipWith, List.set] <;> rfl)) rfl ?_
    refine WL.stL rfl rfl hkb1 isz27 rfl rfl (fun w6 hkw6 huw6 hsw6 => ?_)
    have hv7 := BytesAt.upd hv2 huw6 (fun h0 => Nat.ne_of_lt (hvl3 h0))
    have hB8 := Upd.below hB4 (by omega) huw6
    refine WL.nil <| ?_
    refine W.ret (W.retc1 rfl rfl (ldRow hkw6 Tryd.underlying27 rfl isz27)  ?_)
    exact Ends.ok ⟨6, 0, s⟩ (by rw [if_neg (by omega)]) rfl hB8

/-- a regular byte stands there -/
def regT (l : List UInt8) (t : Nat) : Bool := decide (t < l.length) && regB l[t]!
theorem regT_t {l : List UInt8} {t : Nat} (h : regT l t = true) : t < l.length ∧ wordAt l t = wordAt l (t + 1) := by
  unfold regT at h
  simp only [Bool.and_eq_true, decide_eq_true_eq] at h
  obtain ⟨h1, h2⟩ := h
  rw [getElem!_pos l t h1] at h2
  refine ⟨h1, ?_⟩
  unfold wordAt
  rw [takeWhile_drop regB l t h1, if_pos h2, List.length_cons]; omega
theorem regT_f {l : List UInt8} {t : Nat} (h : regT l t = false) : wordAt l t = t := by
  unfold wordAt
  by_cases h1 : t < l.length
  · unfold regT at h
    rw [decide_eq_true h1, Bool.true_and, getElem!_pos l t h1] at h
    rw [takeWhile_drop regB l t h1, if_neg (bF h)]; rfl
  · rw [List.drop_eq_nil_of_le (by omega)]; rfl
theorem regular_q (x : UInt8) (w : World) (m : Nat) : Calls Tryd.prog 105 #[.int .u8 (x.toNat : Int)] (w.drewN m) fun e w' => e = .returned (.bool (regB x)) ∧ ∃ k, w' = w.drewN k :=
  (scan_regular x (w.drewN m)).mono fun e w' h => ⟨h.1, m, h.2.symm⟩
theorem scan_word (r : Nat) (p : Option Addr) (l : List UInt8) (c a : Nat) (w : World) (h : RdOk w r p l c a) (hne : 0 < l.length → (pA p).block ≠ r) (hc : l.length ≤ c) (hl : l.length ≤ 1000000) (ha : a ≤ l.length) :
    Calls Tryd.prog 80 #[.pointer (some ⟨r, 0, none⟩)] w fun e w' => e = .returned (.string (bs ((l.drop a).takeWhile regB))) ∧ RdOk w' r p l c (wordAt l a) ∧ Touch w.heap.size r w w' := by
  have hr := h.1
  have hb := h.2
  refine W.enter Tryd.func80 rfl Tryd.ntmps80 (Nat.le_of_ble_eq_true rfl) ?_
  have hB0 := Touch.refl (w.heap.size) r w
  refine W.seq ?_
  refine W.reg ?_ -- 0
  refine WL.p (.as rfl) rfl <| WL.nil <| ?_
  refine W.seq ?_
  refine W.reg ?_ -- 1
  refine WL.p (.mv rfl) rfl <| WL.p (.nck rfl) rfl <| WL.p (.fa Tryd.underlying71 rfl Tryd.sizeOf3 (by decide) rfl) rfl <| WL.r (Rd.ld (Tryd.isAgg3 _) rfl hr rfl) rfl <| WL.p (.as rfl) rfl <| WL.nil <| ?_
  refine W.seq ?_
  refine W.block ?_
  -- loop 1: writes [8, 9, 10, 11, 12, 13, 14, 15, 16, 17, 18, 19, 20, 21, 22, 23, 24, 25, 26, 27, 28, 29]; reads from outside [0]
  refine W.loop (α := Nat) (fun t => [(0, .pointer (some ⟨r, 0, none⟩)), (3, .int .i64 (a : Int))]) (fun t w' => RdOk w' r p l c t ∧ Touch w.heap.size r w w' ∧ a ≤ t ∧ t ≤ l.length ∧ wordAt l t = wordAt l a) (fun t => l.length - t) (a) ⟨rfl, rfl, trivial⟩ (⟨h, Touch.refl _ _ _, Nat.le_refl _, ha, rfl⟩) (fun t w1 hR => ?_)
  obtain ⟨hrd, hT, hat, ht, hw⟩ := hR
  refine W.seq ?_
  refine W.cutBQ 22 (regT l t) ?_ (fun w1 dw1 => ?_)
  · skip
    refine W.regQ mixed (by kernel_rfl) ?_ -- 2
    refine WQ.p (.mv rfl) rfl <| WQ.c1 hb76 rfl rfl (fun m => (more_q r p l c t _ ⟨hrd.1, hrd.2⟩ m)) <| WQ.p (.mv rfl) rfl <| WQ.gd rfl rfl rfl (fun g2 => ?_) (fun g2 => ?_)
    · have g2' := of_decide_eq_true g2
      refine WQ.p (.mv rfl) rfl <| WQ.gy rfl rfl rfl g2 <| WQ.p (.nck rfl) rfl <| WQ.gy rfl rfl rfl g2 <| WQ.p (.fa Tryd.underlying71 rfl Tryd.sizeOf32 (by decide) rfl) rfl <| WQ.gy rfl rfl rfl g2 <| WQ.r (fun m => Rd.ld (Tryd.isAgg32 _) rfl hrd.1 rfl) rfl <| WQ.gy rfl rfl rfl g2 <| WQ.p (.mv rfl) rfl <| WQ.gy rfl rfl rfl g2 <| WQ.p (.nck rfl) rfl <| WQ.gy rfl rfl rfl g2 <| WQ.p (.fa Tryd.underlying71 rfl Tryd.sizeOf3 (by decide) rfl) rfl <| WQ.gy rfl rfl rfl g2 <| WQ.r (fun m => Rd.ld (Tryd.isAgg3 _) rfl hrd.1 rfl) rfl <| WQ.gy rfl rfl rfl g2 <| WQ.p (.ixb Tryd.underlying32 Tryd.sizeOf5 rfl rfl (hrd.2.isp (by omega)) (t) (by omega) (by omega)) rfl <| WQ.gy rfl rfl rfl g2 <| WQ.r (fun m => Rd.ldc (Tryd.isAgg5 _) rfl ((hrd.2.drewN m).cells _ (by omega))) rfl <| WQ.gy rfl rfl rfl g2 <| WQ.c1 hb105 rfl rfl (fun m => (regular_q _ _ m)) <| WQ.p (.pkT rfl g2 rfl) rfl <| WQ.nil (fun w3 dw3 => ?_)
      have hk4 := hrd.1.drew dw3
      have hv5 := hrd.2.drew dw3
      have hB6 := Touch.trans hT (Touch.of_drew dw3)
      exact ⟨⟨lk_b rfl (by (by_cases hq : t < l.length) <;> (unfold regT; first | (exfalso; omega) | (rw [getElem!_pos l t hq, decide_eq_true hq]; rfl) | (rw [decide_eq_false hq]; simp_all; done))), by repeat (first | exact Le.refl _ | refine Le.cons rfl ?_)⟩, dw3⟩
    · have g2' := of_decide_eq_false g2
      refine WQ.gn rfl rfl rfl g2 <| WQ.gn rfl rfl rfl g2 <| WQ.gn rfl rfl rfl g2 <| WQ.gn rfl rfl rfl g2 <| WQ.gn rfl rfl rfl g2 <| WQ.gn rfl rfl rfl g2 <| WQ.gn rfl rfl rfl g2 <| WQ.gn rfl rfl rfl g2 <| WQ.gn rfl rfl rfl g2 <| WQ.gn rfl rfl rfl g2 <| WQ.p (.pkF rfl g2 rfl) rfl <| WQ.nil (fun w7 dw7 => ?_)
      have hk8 := hrd.1.drew dw7
      have hv9 := hrd.2.drew dw7
      have hB10 := Touch.trans hT (Touch.of_drew dw7)
      exact ⟨⟨lk_b rfl (by (by_cases hq : t < l.length) <;> (unfold regT; first | (exfalso; omega) | (rw [getElem!_pos l t hq, decide_eq_true hq]; rfl) | (rw [decide_eq_false hq]; simp_all; done))), by repeat (first | exact Le.refl _ | refine Le.cons rfl ?_)⟩, dw7⟩
  have hk11 := hrd.1.drew dw1
  have hv12 := hrd.2.drew dw1
  have hB13 := Touch.trans hT (Touch.of_drew dw1)
  refine W.cond rfl (fun h14 => ?_) (fun h14 => ?_) -- slot 22
  · have h14' := h14
    obtain ⟨hc1, hc2⟩ := regT_t (by assumption)
    refine W.skip ?_
    refine W.block ?_
    refine W.reg ?_ -- 3
    refine WL.p (.mv rfl) rfl <| WL.p (.nck rfl) rfl <| WL.p (.fa Tryd.underlying71 rfl Tryd.sizeOf3 (by decide) rfl) rfl <| WL.r (Rd.ld (Tryd.isAgg3 _) rfl hk11 rfl) rfl <| WL.p (.iis (((t + 1 : Nat) : Int)) (.add rfl rfl (i64w (by omega))) (by omega)) rfl <| WL.p (.nck rfl) rfl <| WL.p (.fa Tryd.underlying71 rfl Tryd.sizeOf3 (by decide) rfl) rfl <| WL.st Tryd.sizeOf3 rfl rfl rfl hk11 (by first | decide | exact Nat.le_of_ble_eq_true rfl) (fun w15 hkw15 huw15 hsw15 => ?_)
    have hv16 := BytesAt.upd hv12 huw15 hne
    have hB17 := Touch.trans hB13 (Touch.of_upd huw15)
    refine WL.nil <| ?_
    exact ⟨t + 1, ⟨rfl, rfl, trivial⟩, ⟨⟨hkw15, hv16⟩, hB17, by omega, by omega, by omega⟩, by omega⟩
  · have h14' := h14
    have hc1 := regT_f (by assumption)
    refine W.exit ?_ -- 0
    refine W.seq ?_
    refine W.regQ mixed (by kernel_rfl) ?_ -- 4
    refine WQ.p (.mv rfl) rfl <| WQ.p (.nck rfl) rfl <| WQ.p (.fa Tryd.underlying71 rfl Tryd.sizeOf32 (by decide) rfl) rfl <| WQ.r (fun m => Rd.ld (Tryd.isAgg32 _) rfl hk11 rfl) rfl <| WQ.p (.mv rfl) rfl <| WQ.p (.mv rfl) rfl <| WQ.p (.nck rfl) rfl <| WQ.p (.fa Tryd.underlying71 rfl Tryd.sizeOf3 (by decide) rfl) rfl <| WQ.r (fun m => Rd.ld (Tryd.isAgg3 _) rfl hk11 rfl) rfl <| WQ.p (.slb Tryd.underlying32 Tryd.sizeOf5 rfl rfl rfl  (a) (t) (rfl) (rfl) (hat) (by omega)) rfl <| WQ.r (fun m => Rd.b2sPart Tryd.underlying32 Tryd.underlying5 Tryd.underlying9 rfl rfl (hv12.drewN m) hat ht hc) rfl <| WQ.p (.as rfl) rfl <| WQ.nil (fun w18 dw18 => ?_)
    have hk19 := hk11.drew dw18
    have hv20 := hv12.drew dw18
    have hB21 := Touch.trans hB13 (Touch.of_drew dw18)
    refine W.ret (W.ret1 rfl rfl ?_)
    exact ⟨ret_val (by rw [← word_take, ← hw, hc1]), ⟨by rw [← hw, hc1]; exact hk19, hv20⟩, hB21⟩

theorem nameS_err {k e : Int} {l : List UInt8} (h : (if 127 < (l.takeWhile regB).length then (.error 9 : Except Int TokV) else .ok ⟨k, 0, l.takeWhile regB⟩) = .error e) : nameS k l = .error e := by
  unfold nameS
  split at h
  · next h1 => rw [if_pos h1]; cases h; rfl
  · cases h
theorem nameS_ok {k : Int} {l : List UInt8} {a : TokV} (h : (if 127 < (l.takeWhile regB).length then (.error 9 : Except Int TokV) else .ok ⟨k, 0, l.takeWhile regB⟩) = .ok a) : nameS k l = .ok (a, l.dropWhile regB) := by
  unfold nameS
  split at h
  · cases h
  · next h1 => rw [if_neg h1]; cases h; rfl
theorem word_len (l : List UInt8) (t : Nat) : ((l.drop t).takeWhile regB).length ≤ l.length := by
  have := (List.takeWhile_sublist regB (l := l.drop t)).length_le
  rw [List.length_drop] at this; omega
/-- a token read: what stands behind -/
def Read (w0 : World) (r : Nat) (p : Option Addr) (l : List UInt8) (c : Nat) (a : TokV × List UInt8) (w' : World) : Prop := ∃ k, a.2 = l.drop k ∧ k ≤ l.length ∧ RdOk w' r p l c k ∧ Touch w0.heap.size r w0 w'
theorem scan_slash (r : Nat) (p : Option Addr) (l : List UInt8) (c t : Nat) (w : World) (h : RdOk w r p l c t) (hne : 0 < l.length → (pA p).block ≠ r) (hc : l.length ≤ c) (hl : l.length ≤ 1000000) (ht : t ≤ l.length) :
    Calls Tryd.prog 79 #[.pointer (some ⟨r, 0, none⟩)] w (Ends 28 (slashS (l.drop t)) (fun a => a.1.val) (Read w r p l c) (fun w' => Touch w.heap.size r w w')) := by
  have hr := h.1
  have hb := h.2
  have hy := slash_eq (l := l) (s := t) (d := (l[t]?).getD 0) rfl
  refine W.enter Tryd.func79 rfl Tryd.ntmps79 (Nat.le_of_ble_eq_true rfl) ?_
  have hB0 := Touch.refl (w.heap.size) r w
  refine W.seq ?_
  refine W.reg ?_ -- 0
  refine WL.alloc Tryd.zeroValue27 rfl (fun b1 wb1 eb1 hkb1 hub1 hsb1 => ?_)
  have hl3 : r < b1 := by rw [eb1]; exact hr.lt
  have hk2 := hr.upd hub1 (Nat.ne_of_lt hl3)
  have hvl5 := fun h0 => eb1 ▸ hb.lt h0
  have hv4 := BytesAt.upd hb hub1 (fun h0 => Nat.ne_of_lt (hvl5 h0))
  have hgeb1 : w.heap.size ≤ b1 := by rw [eb1]; exact hB0.size
  have hB6 := Touch.trans hB0 (Touch.of_new hub1 hgeb1)
  refine WL.nil <| ?_
  refine W.seq ?_
  refine W.seq ?_
  refine W.reg ?_ -- 1
  refine WL.p (.mv rfl) rfl <| WL.c1 hb102 rfl rfl ((scan_next r p l c t 47 _ ⟨hk2, hv4⟩ hne hl ht)) (fun w7 hw7 => ?_)
  have hk8 := hw7.1.1
  have hk9 := Blk.touch hkb1 hw7.2 hkb1.lt (by omega)
  have hv10 := hw7.1.2
  have hB11 := Touch.trans hB6 (Touch.mono hw7.2 hB6.size)
  refine WL.nil <| ?_
  refine W.cond rfl (fun h12 => ?_) (fun h12 => ?_) -- slot 4
  · have h12' := h12
    obtain ⟨hn1, hn2⟩ := nextB_t (x := 47) (by assumption)
    rw [if_pos (by assumption)] at hk8
    rw [if_pos (by rw [List.getElem?_eq_getElem hn1, hn2]; rfl)] at hy
    refine W.seq ?_
    refine W.reg ?_ -- 2
    refine WL.p (.mv rfl) rfl <| WL.c1 hb80 rfl rfl ((scan_word r p l c (t + 1) _ ⟨hk8, hv10⟩ hne hc hl (by omega))) (fun w13 hw13 => ?_)
    have hk14 := hw13.1.1
    have hk15 := Blk.touch hk9 hw13.2 hk9.lt (by omega)
    have hv16 := hw13.1.2
    have hB17 := Touch.trans hB11 (Touch.mono hw13.2 hB11.size)
    refine WL.ce hb81 rfl rfl ((scan_name 5 _ _ (by have := word_len l (t + 1); omega))) (fun k20 w18 hrw18 hw18 => ?_) (fun a19 w18 hrw18 hw18 => ?_)
    · skip
      have hBew18 := Touch.trans hB17 (Touch.mono (Touch.of_below hw18) hB17.size)
      exact pn_is (Ends.err k20 (by rw [hy]; exact nameS_err hrw18) hBew18)
    · skip
      have hk21 := hk14.below hw18 hk14.lt
      have hk22 := hk15.below hw18 hk15.lt
      have hv23 := BytesAt.below hv16 hw18 (fun h0 => hv16.lt h0)
      have hB24 := Touch.trans hB17 (Touch.mono (Touch.of_below hw18) hB17.size)
      obtain ⟨a0, ha0⟩ : ∃ a0, a0 = a19 := ⟨_, rfl⟩
      have hra := hrw18
      refine WL.stL rfl rfl hk22 isz27 rfl rfl (fun w25 hkw25 huw25 hsw25 => ?_)
      have hk26 := hk21.upd huw25 (by ((try simp only) <;> omega))
      have hv27 := BytesAt.upd hv23 huw25 (fun h0 => Nat.ne_of_lt (hvl5 h0))
      have hB28 := Touch.trans hB24 (Touch.of_new huw25 (by omega))
      refine WL.nil <| ?_
      refine W.ret (W.retc1 rfl rfl (ldRow hkw25 Tryd.underlying27 rfl isz27)  ?_)
      first
      | exact Ends.ok (_, l.drop (wordAt l (t + 1))) (by rw [hy, nameS_ok hra, word_drop]) rfl ⟨_, rfl, (wordAt_le l (t + 1) (by omega)).2, ⟨hk26, hv27⟩, hB28⟩
      | exact Ends.ok (_, l.drop (wordAt l t)) (by rw [hy, nameS_ok hra, word_drop]) rfl ⟨_, rfl, (wordAt_le l t (by omega)).2, ⟨hk26, hv27⟩, hB28⟩
  · have h12' := h12
    rw [if_neg (bF (by assumption))] at hk8
    rw [if_neg (by
      by_cases hq : t < l.length
      · rw [List.getElem?_eq_getElem hq]; exact nextB_f (x := 47) (by assumption) hq
      · rw [List.getElem?_eq_none (by omega)]; decide)] at hy
    refine W.skip ?_
    refine W.seq ?_
    refine W.reg ?_ -- 3
    refine WL.p (.mv rfl) rfl <| WL.c1 hb80 rfl rfl ((scan_word r p l c t _ ⟨hk8, hv10⟩ hne hc hl (by omega))) (fun w29 hw29 => ?_)
    have hk30 := hw29.1.1
    have hk31 := Blk.touch hk9 hw29.2 hk9.lt (by omega)
    have hv32 := hw29.1.2
    have hB33 := Touch.trans hB11 (Touch.mono hw29.2 hB11.size)
    refine WL.ce hb81 rfl rfl ((scan_name 4 _ _ (by have := word_len l t; omega))) (fun k36 w34 hrw34 hw34 => ?_) (fun a35 w34 hrw34 hw34 => ?_)
    · skip
      have hBew34 := Touch.trans hB33 (Touch.mono (Touch.of_below hw34) hB33.size)
      exact pn_is (Ends.err k36 (by rw [hy]; exact nameS_err hrw34) hBew34)
    · skip
      have hk37 := hk30.below hw34 hk30.lt
      have hk38 := hk31.below hw34 hk31.lt
      have hv39 := BytesAt.below hv32 hw34 (fun h0 => hv32.lt h0)
      have hB40 := Touch.trans hB33 (Touch.mono (Touch.of_below hw34) hB33.size)
      obtain ⟨a0, ha0⟩ : ∃ a0, a0 = a35 := ⟨_, rfl⟩
      have hra := hrw34
      refine WL.stL rfl rfl hk38 isz27 rfl rfl (fun w41 hkw41 huw41 hsw41 => ?_)
      have hk42 := hk37.upd huw41 (by ((try simp only) <;> omega))
      have hv43 := BytesAt.upd hv39 huw41 (fun h0 => Nat.ne_of_lt (hvl5 h0))
      have hB44 := Touch.trans hB40 (Touch.of_new huw41 (by omega))
      refine WL.nil <| ?_
      refine W.ret (W.retc1 rfl rfl (ldRow hkw41 Tryd.underlying27 rfl isz27)  ?_)
      first
      | exact Ends.ok (_, l.drop (wordAt l (t + 1))) (by rw [hy, nameS_ok hra, word_drop]) rfl ⟨_, rfl, (wordAt_le l (t + 1) (by omega)).2, ⟨hk42, hv43⟩, hB44⟩
      | exact Ends.ok (_, l.drop (wordAt l t)) (by rw [hy, nameS_ok hra, word_drop]) rfl ⟨_, rfl, (wordAt_le l t (by omega)).2, ⟨hk42, hv43⟩, hB44⟩

end Go.Proofs.YteaohajihhpnmaaDoor
