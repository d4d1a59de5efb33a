/-
  What the claim leans on, part 2: pruned and joined by my own tool out of the texts that stand in wip/ as templates.
-/
import Derived.Test.YtjghbcjnplcleaaGreatDoorSf1
namespace Go.Proofs.YtjghbcjnplcleaaGreatDoor
open Go.RowKit
open Go.Proofs.Tryz
section
theorem isz78 : (Tryz.prog.info? 78).map (·.size) = some 4 := by kernel_rfl
theorem isz85 : (Tryz.prog.info? 85).map (·.size) = some 6 := by kernel_rfl
def parts (c : ColorV) : List Int := [c.fPart_0, c.fPart_1, c.fPart_2, c.fPart_3]
def partL : Lay ColorV := ⟨4, fun c => [.int .i64 c.fPart_0, .int .i64 c.fPart_1, .int .i64 c.fPart_2, .int .i64 c.fPart_3], by decide, fun _ => rfl, fun x u hu => List.all_eq_true.1 (show ([.int .i64 x.fPart_0, .int .i64 x.fPart_1, .int .i64 x.fPart_2, .int .i64 x.fPart_3] : List Value).all Value.oneCell' = true from rfl) u hu⟩
theorem parts_at (c : ColorV) (i : Nat) (h : i < (parts c).length) : (partL.V c).toArray[i]? = some (.int .i64 (parts c)[i]) := by
 have h' : i < 4 := h
 obtain rfl | rfl | rfl | rfl : i = 0 ∨ i = 1 ∨ i = 2 ∨ i = 3 := by omega
 all_goals rfl
theorem parts_row {w : World} {b : Nat} {t : TypeId} {c : ColorV} (h : Blk w b (colorV c).toArray t) : RowAt intV w (some ⟨b, 1, none⟩) (parts c) := ⟨fun _ => rfl, fun j hj => by
 show w.cell? ((⟨b, 1, none⟩ : Addr).add j) = _
 have h' : j < 4 := hj
 rw [add_lit, h.cell]
 obtain rfl | rfl | rfl | rfl : j = 0 ∨ j = 1 ∨ j = 2 ∨ j = 3 := by omega
 all_goals rfl⟩
def spaceB (n : Int) : Bool := !(!decide (n = 1) && !decide (n = 3) && !decide (n = 4))
def partB (c : ColorV) (i : Nat) (h : i < (parts c).length) : Bool := decide (0 ≤ (parts c)[i]) && decide ((parts c)[i] ≤ 65536) && (decide ((i : Int) < c.fSpace) || decide ((parts c)[i] = 0))
def colorB (c : ColorV) : Bool := spaceB c.fSpace && (partB c 0 (by simp [parts]) && partB c 1 (by simp [parts]) && partB c 2 (by simp [parts]) && partB c 3 (by simp [parts]))
theorem colorB_no {c : ColorV} {i : Nat} (h : i < (parts c).length) (e : partB c i h = false) : colorB c = false := by
 have h' : i < 4 := h
 unfold colorB
 obtain rfl | rfl | rfl | rfl : i = 0 ∨ i = 1 ∨ i = 2 ∨ i = 3 := by omega
 all_goals (rw [e]; simp)
theorem colorB_yes {c : ColorV} (hs : spaceB c.fSpace = true) (h : ∀ i (hi : i < (parts c).length), partB c i hi = true) : colorB c = true := by
 unfold colorB; rw [hs, h, h, h, h]; rfl
theorem paint_color (c : ColorV) (w : World) : Calls Tryz.prog 140 #[.agg (colorV c).toArray] w fun e w' => e = .returned (.bool (colorB c)) ∧ Below w.heap.size w w' := by
 refine W.enter func140 rfl ntmps140 (Nat.le_of_ble_eq_true rfl) ?_
 have hB0 := Below.refl (w.heap.size) w
 refine W.sr <| WL.box rfl rfl (fun b1 wb1 eb1 hkb1 hub1 hsb1 => ?_)
 have hB2 := Upd.below hB0 (by rw [eb1]; exact hB0.size) hub1
 have hgeb1 : w.heap.size ≤ b1 := by rw [eb1]; exact hB0.size
 refine WL.z rfl rfl ?_
 refine W.seq ?_
 refine W.cutB 17 (!spaceB c.fSpace) ?_ ?_
 refine W.reg <| WL.p (.fa underlying80 rfl sizeOf3 dD rfl) rfl <| WL.r (Rd.ld (isAgg3 _) rfl hkb1 rfl) rfl <| WL.p (.neq rfl rfl) rfl <| WL.m rfl rfl <| WL.gd rfl rfl rfl (fun g3 => ?_) (fun g3 => ?_)
 have g3' := ndT g3
 refine WL.p (.fa underlying80 rfl sizeOf3 dD rfl) rfl <| WL.gy rfl rfl rfl g3 <| WL.r (Rd.ld (isAgg3 _) rfl hkb1 rfl) rfl <| WL.gy rfl rfl rfl g3 <| WL.p (.neq rfl rfl) rfl <| WL.p (.pkT rfl g3 rfl) rfl <| WL.m rfl rfl <| WL.gd rfl rfl rfl (fun g4 => ?_) (fun g4 => ?_)
 have g4' := ndT g4
 refine WL.p (.fa underlying80 rfl sizeOf3 dD rfl) rfl <| WL.gy rfl rfl rfl g4 <| WL.r (Rd.ld (isAgg3 _) rfl hkb1 rfl) rfl <| WL.gy rfl rfl rfl g4 <| WL.p (.neq rfl rfl) rfl <| WL.p (.pkT rfl g4 rfl) rfl <| WL.nil <| ?_
 exact ⟨leE (lk_b rfl (by unfold spaceB; simp_all)), rfl⟩
 have g4' := ndF g4
 refine WL.gn rfl rfl rfl g4 <| WL.gn rfl rfl rfl g4 <| WL.p (.pkF rfl g4 rfl) rfl <| WL.nil <| ?_
 exact ⟨leE (lk_b rfl (by unfold spaceB; simp_all)), rfl⟩
 have g3' := ndF g3
 refine WL.gn rfl rfl rfl g3 <| WL.gn rfl rfl rfl g3 <| WL.p (.pkF rfl g3 rfl) rfl <| WL.m rfl rfl <| WL.gn rfl rfl rfl rfl <| WL.gn rfl rfl rfl rfl <| WL.gn rfl rfl rfl rfl <| WL.p (.pkF rfl rfl rfl) rfl <| WL.nil <| ?_
 exact ⟨leE (lk_b rfl (by unfold spaceB; simp_all)), rfl⟩
 refine W.cond rfl (fun h5 => ?_) (fun h5 => ?_)
 refine W.sr <| WL.z rfl rfl ?_
 refine W.ret (W.ret1 rfl rfl ?_)
 first
 | exact ⟨scr_val (by unfold colorB; rw [show spaceB c.fSpace = false from by simpa using (show (!spaceB c.fSpace) = true by assumption)]; rfl), hB2⟩
 | exact ⟨scr_val (by rw [colorB_no hkl (by simpa using (show (!partB c k hkl) = true by assumption))]), hB2⟩
 | exact ⟨scr_val (by rw [colorB_yes (by simp_all) (fun i hi => hall i hi (by have h4 : i < 4 := hi; omega))]), hB2⟩
 refine W.skip <| W.seq <| W.sr <| WL.p (.fa underlying80 rfl sizeOf78 dD rfl) rfl <| WL.r (Rd.ldF (L := partL) underlying78 rfl isz78 hkb1 (c) (rfl) rfl) rfl <| WL.m rfl rfl <| WL.nil <| ?_
 refine W.block ?_
 refine W.loop (α := Nat) (fun t => [(1, .pointer (some ⟨b1, 0, none⟩)), (19, .agg (partL.V c).toArray), (20, .int .i64 (t : Int))]) (fun t w' => wb1 = w' ∧ t ≤ 4 ∧ ∀ i (hi : i < (parts c).length), i < t → partB c i hi = true) (fun t => 4 - t) (0) ⟨rfl, rfl, rfl, trivial⟩ (⟨rfl, by decide, fun i _ h => absurd h oO⟩) (fun t w1 hR => ?_)
 obtain ⟨k, rfl⟩ : ∃ k, k = t := ⟨t, rfl⟩
 obtain ⟨rfl, hk, hall⟩ := hR
 refine W.sr <| WL.p (.lss rfl rfl) rfl <| WL.nil <| ?_
 refine W.seq <| W.cond rfl (fun h6 => ?_) (fun h6 => ?_)
 have h6' := dT h6
 have hkl : k < (parts c).length := by simp [parts]; omega
 refine W.skip <| W.seq <| W.block <| W.sr <| WL.m rfl rfl <| WL.p (.ixv underlying78 isAgg3 sizeOf3 rfl rfl (k) (rfl) oO (parts_at c k hkl)) rfl <| WL.a rfl rfl <| WL.z rfl rfl ?_
 refine W.cutB 39 (!partB c k hkl) ?_ ?_
 refine W.reg <| WL.m rfl rfl <| WL.p (.lss rfl rfl) rfl <| WL.m rfl rfl <| WL.gd rfl rfl rfl (fun g7 => ?_) (fun g7 => ?_)
 have g7' := dF g7
 refine WL.m rfl rfl <| WL.gy rfl rfl rfl g7 <| WL.p (.gtr rfl rfl) rfl <| WL.p (.pkF rfl g7 rfl) rfl <| WL.m rfl rfl <| WL.gd rfl rfl rfl (fun g8 => ?_) (fun g8 => ?_)
 have g8' := dF g8
 refine WL.m rfl rfl <| WL.gy rfl rfl rfl g8 <| WL.p (.fa underlying80 rfl sizeOf3 dD rfl) rfl <| WL.gy rfl rfl rfl g8 <| WL.r (Rd.ld (isAgg3 _) rfl hkb1 rfl) rfl <| WL.gy rfl rfl rfl g8 <| WL.p (.geq rfl rfl) rfl <| WL.gy rfl rfl rfl g8 <| WL.m rfl rfl <| WL.gd rfl rfl rfl (fun g9 => ?_) (fun g9 => ?_)
 have g9' := dT g9
 refine WL.m rfl rfl <| WL.gy rfl rfl rfl g9 <| WL.p (.neq rfl rfl) rfl <| WL.gy rfl rfl rfl g8 <| WL.p (.pkT rfl g9 rfl) rfl <| WL.p (.pkF rfl g8 rfl) rfl <| WL.nil <| ?_
 exact ⟨leE (lk_b rfl (by unfold partB; first | (simp_all; done) | (simp_all <;> (intros; omega)))), rfl⟩
 have g9' := dF g9
 refine WL.gn rfl rfl rfl g9 <| WL.gy rfl rfl rfl g8 <| WL.p (.pkF rfl g9 rfl) rfl <| WL.p (.pkF rfl g8 rfl) rfl <| WL.nil <| ?_
 exact ⟨leE (lk_b rfl (by unfold partB; first | (simp_all; done) | (simp_all <;> (intros; omega)))), rfl⟩
 have g8' := dT g8
 refine WL.gn rfl rfl rfl g8 <| WL.gn rfl rfl rfl g8 <| WL.gn rfl rfl rfl g8 <| WL.gn rfl rfl rfl g8 <| WL.gu rfl rfl rfl <| WL.gu rfl rfl rfl <| WL.gn rfl rfl rfl g8 <| WL.p (.pkT rfl g8 rfl) rfl <| WL.nil <| ?_
 exact ⟨leE (lk_b rfl (by unfold partB; first | (simp_all; done) | (simp_all <;> (intros; omega)))), rfl⟩
 have g7' := dT g7
 refine WL.gn rfl rfl rfl g7 <| WL.p (.pkT rfl g7 rfl) rfl <| WL.m rfl rfl <| WL.gn rfl rfl rfl rfl <| WL.gn rfl rfl rfl rfl <| WL.gn rfl rfl rfl rfl <| WL.gn rfl rfl rfl rfl <| WL.gn rfl rfl rfl rfl <| WL.gu rfl rfl rfl <| WL.gu rfl rfl rfl <| WL.gn rfl rfl rfl rfl <| WL.p (.pkT rfl rfl rfl) rfl <| WL.nil <| ?_
 exact ⟨leE (lk_b rfl (by unfold partB; first | (simp_all; done) | (simp_all <;> (intros; omega)))), rfl⟩
 refine W.cond rfl (fun h10 => ?_) (fun h10 => ?_)
 refine W.sr <| WL.z rfl rfl ?_
 refine W.ret (W.ret1 rfl rfl ?_)
 first
 | exact ⟨scr_val (by unfold colorB; rw [show spaceB c.fSpace = false from by simpa using (show (!spaceB c.fSpace) = true by assumption)]; rfl), hB2⟩
 | exact ⟨scr_val (by rw [colorB_no hkl (by simpa using (show (!partB c k hkl) = true by assumption))]), hB2⟩
 | exact ⟨scr_val (by rw [colorB_yes (by simp_all) (fun i hi => hall i hi (by have h4 : i < 4 := hi; omega))]), hB2⟩
 refine W.skip <| W.reg <| WL.p (.iis (((k + 1 : Nat) : Int)) (.add rfl rfl (i64w oO)) oO) rfl <| WL.m rfl rfl <| WL.nil <| ?_
 exact ⟨k + 1, ⟨rfl, rfl, rfl, trivial⟩, ⟨rfl, by ((try simp only) <;> omega), fun j hj h => by
  rcases Nat.lt_succ_iff_lt_or_eq.1 h with h2 | rfl
  exact hall j hj h2
  simp_all⟩, by ((try simp only) <;> omega)⟩
 have h6' := dF h6
 refine W.exit <| W.sr <| WL.z rfl rfl ?_
 refine W.ret (W.ret1 rfl rfl ?_)
 first
 | exact ⟨scr_val (by unfold colorB; rw [show spaceB c.fSpace = false from by simpa using (show (!spaceB c.fSpace) = true by assumption)]; rfl), hB2⟩
 | exact ⟨scr_val (by rw [colorB_no hkl (by simpa using (show (!partB c k hkl) = true by assumption))]), hB2⟩
 | exact ⟨scr_val (by rw [colorB_yes (by simp_all) (fun i hi => hall i hi (by have h4 : i < 4 := hi; omega))]), hB2⟩
set_option maxHeartbeats 400000 in
theorem ref_soundPen (x : PenV) (w : World) (hr : RowAt intV w x.pfDash x.fDash) : Calls Tryz.prog 129 #[.agg (penV x).toArray] w fun e w' => e = .returned (.bool (penB x)) ∧ Below w.heap.size w w' := by
 have hrlt : 0 < x.fDash.length → (pA x.pfDash).block < w.heap.size := fun h0 => hr.lt h0
 refine W.enter func129 rfl ntmps129 (Nat.le_of_ble_eq_true rfl) ?_
 have hB0 := Below.refl (w.heap.size) w
 refine W.sr <| WL.box rfl rfl (fun b1 wb1 eb1 hkb1 hub1 hsb1 => ?_)
 have hvl3 := fun h0 => eb1 ▸ hr.lt h0
 have hv2 := RowAt.upd hr hub1 (fun h0 => Nat.ne_of_lt (hvl3 h0))
 have hB4 := Upd.below hB0 (by rw [eb1]; exact hB0.size) hub1
 have hgeb1 : w.heap.size ≤ b1 := by rw [eb1]; exact hB0.size
 refine WL.z rfl rfl ?_
 refine W.seq ?_
 refine W.cutB 61 (penH x) ?_ ?_
 refine W.reg <| WL.p (.fa underlying84 rfl sizeOf3 dD rfl) rfl <| WL.r (Rd.ld (isAgg3 _) rfl hkb1 rfl) rfl <| WL.p (.lss rfl rfl) rfl <| WL.m rfl rfl <| WL.gd rfl rfl rfl (fun g5 => ?_) (fun g5 => ?_)
 have g5' := dF g5
 refine WL.p (.fa underlying84 rfl sizeOf3 dD rfl) rfl <| WL.gy rfl rfl rfl g5 <| WL.r (Rd.ld (isAgg3 _) rfl hkb1 rfl) rfl <| WL.gy rfl rfl rfl g5 <| WL.c1 hb62 rfl rfl ((ref_Fits _ _)) (fun w6 hw6 => ?_)
 obtain rfl := hw6
 refine WL.gy rfl rfl rfl g5 <| WL.p (.not rfl) rfl <| WL.p (.pkF rfl g5 rfl) rfl <| WL.m rfl rfl <| WL.gd rfl rfl rfl (fun g7 => ?_) (fun g7 => ?_)
 have g7' := (nF g7)
 refine WL.p (.fa underlying84 rfl sizeOf3 dD rfl) rfl <| WL.gy rfl rfl rfl (by rw [(nF g7)] <;> rfl) <| WL.r (Rd.ld (isAgg3 _) rfl hkb1 rfl) rfl <| WL.gy rfl rfl rfl (by rw [(nF g7)] <;> rfl) <| WL.p (.lss rfl rfl) rfl <| WL.p (.pkF rfl (by rw [(nF g7)] <;> rfl) rfl) rfl <| WL.m rfl rfl <| WL.gd rfl rfl rfl (fun g8 => ?_) (fun g8 => ?_)
 have g8' := dF g8
 refine WL.p (.fa underlying84 rfl sizeOf3 dD rfl) rfl <| WL.gy rfl rfl rfl g8 <| WL.r (Rd.ld (isAgg3 _) rfl hkb1 rfl) rfl <| WL.gy rfl rfl rfl g8 <| WL.p (.gtr rfl rfl) rfl <| WL.p (.pkF rfl g8 rfl) rfl <| WL.m rfl rfl <| WL.gd rfl rfl rfl (fun g9 => ?_) (fun g9 => ?_)
 have g9' := dF g9
 refine WL.p (.fa underlying84 rfl sizeOf3 dD rfl) rfl <| WL.gy rfl rfl rfl g9 <| WL.r (Rd.ld (isAgg3 _) rfl hkb1 rfl) rfl <| WL.gy rfl rfl rfl g9 <| WL.p (.lss rfl rfl) rfl <| WL.p (.pkF rfl g9 rfl) rfl <| WL.m rfl rfl <| WL.gd rfl rfl rfl (fun g10 => ?_) (fun g10 => ?_)
 have g10' := dF g10
 refine WL.p (.fa underlying84 rfl sizeOf3 dD rfl) rfl <| WL.gy rfl rfl rfl g10 <| WL.r (Rd.ld (isAgg3 _) rfl hkb1 rfl) rfl <| WL.gy rfl rfl rfl g10 <| WL.p (.gtr rfl rfl) rfl <| WL.p (.pkF rfl g10 rfl) rfl <| WL.m rfl rfl <| WL.gd rfl rfl rfl (fun g11 => ?_) (fun g11 => ?_)
 have g11' := dF g11
 refine WL.p (.fa underlying84 rfl sizeOf3 dD rfl) rfl <| WL.gy rfl rfl rfl g11 <| WL.r (Rd.ld (isAgg3 _) rfl hkb1 rfl) rfl <| WL.gy rfl rfl rfl g11 <| WL.p (.lss rfl rfl) rfl <| WL.p (.pkF rfl g11 rfl) rfl <| WL.m rfl rfl <| WL.gd rfl rfl rfl (fun g12 => ?_) (fun g12 => ?_)
 have g12' := dF g12
 refine WL.p (.fa underlying84 rfl sizeOf3 dD rfl) rfl <| WL.gy rfl rfl rfl g12 <| WL.r (Rd.ld (isAgg3 _) rfl hkb1 rfl) rfl <| WL.gy rfl rfl rfl g12 <| WL.c1 hb62 rfl rfl ((ref_Fits _ _)) (fun w13 hw13 => ?_)
 obtain rfl := hw13
 refine WL.gy rfl rfl rfl g12 <| WL.p (.not rfl) rfl <| WL.p (.pkF rfl g12 rfl) rfl <| WL.m rfl rfl <| WL.gd rfl rfl rfl (fun g14 => ?_) (fun g14 => ?_)
 have g14' := (nF g14)
 refine WL.p (.fa underlying84 rfl sizeOf3 dD rfl) rfl <| WL.gy rfl rfl rfl (by rw [(nF g14)] <;> rfl) <| WL.r (Rd.ld (isAgg3 _) rfl hkb1 rfl) rfl <| WL.gy rfl rfl rfl (by rw [(nF g14)] <;> rfl) <| WL.p (.lss rfl rfl) rfl <| WL.p (.pkF rfl (by rw [(nF g14)] <;> rfl) rfl) rfl <| WL.m rfl rfl <| WL.gd rfl rfl rfl (fun g15 => ?_) (fun g15 => ?_)
 have g15' := dF g15
 refine WL.p (.fa underlying84 rfl sizeOf3 dD rfl) rfl <| WL.gy rfl rfl rfl g15 <| WL.r (Rd.ld (isAgg3 _) rfl hkb1 rfl) rfl <| WL.gy rfl rfl rfl g15 <| WL.c1 hb62 rfl rfl ((ref_Fits _ _)) (fun w16 hw16 => ?_)
 obtain rfl := hw16
 refine WL.gy rfl rfl rfl g15 <| WL.p (.not rfl) rfl <| WL.p (.pkF rfl g15 rfl) rfl <| WL.m rfl rfl <| WL.gd rfl rfl rfl (fun g17 => ?_) (fun g17 => ?_)
 have g17' := (nF g17)
 refine WL.p (.fa underlying84 rfl sizeOf82 dD rfl) rfl <| WL.gy rfl rfl rfl (by rw [(nF g17)] <;> rfl) <| WL.r (Rd.ld (isAgg82 _) rfl hkb1 rfl) rfl <| WL.gy rfl rfl rfl (by rw [(nF g17)] <;> rfl) <| WL.p (.lenS underlying82 rfl) rfl <| WL.gy rfl rfl rfl (by rw [(nF g17)] <;> rfl) <| WL.p (.gtr rfl rfl) rfl <| WL.p (.pkF rfl (by rw [(nF g17)] <;> rfl) rfl) rfl <| WL.nil <| ?_
 exact ⟨leE (lk_b rfl (by unfold penH; first | (simp_all; done) | (simp_all <;> (intros; omega)))), rfl⟩
 have g17' := (nT g17)
 refine WL.gn rfl rfl rfl (by rw [(nT g17)] <;> rfl) <| WL.gn rfl rfl rfl (by rw [(nT g17)] <;> rfl) <| WL.gn rfl rfl rfl (by rw [(nT g17)] <;> rfl) <| WL.p (.pkT rfl (by rw [(nT g17)] <;> rfl) rfl) rfl <| WL.nil <| ?_
 exact ⟨leE (lk_b rfl (by unfold penH; first | (simp_all; done) | (simp_all <;> (intros; omega)))), rfl⟩
 have g15' := dT g15
 refine WL.gn rfl rfl rfl g15 <| WL.gn rfl rfl rfl g15 <| WL.gn rfl rfl rfl g15 <| WL.p (.pkT rfl g15 rfl) rfl <| WL.m rfl rfl <| WL.gn rfl rfl rfl rfl <| WL.gn rfl rfl rfl rfl <| WL.gn rfl rfl rfl rfl <| WL.gn rfl rfl rfl rfl <| WL.p (.pkT rfl rfl rfl) rfl <| WL.nil <| ?_
 exact ⟨leE (lk_b rfl (by unfold penH; first | (simp_all; done) | (simp_all <;> (intros; omega)))), rfl⟩
 have g14' := (nT g14)
 refine WL.gn rfl rfl rfl (by rw [(nT g14)] <;> rfl) <| WL.gn rfl rfl rfl (by rw [(nT g14)] <;> rfl) <| WL.p (.pkT rfl (by rw [(nT g14)] <;> rfl) rfl) rfl <| WL.m rfl rfl <| WL.gn rfl rfl rfl rfl <| WL.gn rfl rfl rfl rfl <| WL.gn rfl rfl rfl rfl <| WL.gn rfl rfl rfl rfl <| WL.p (.pkT rfl rfl rfl) rfl <| WL.m rfl rfl <| WL.gn rfl rfl rfl rfl <| WL.gn rfl rfl rfl rfl <| WL.gn rfl rfl rfl rfl <| WL.gn rfl rfl rfl rfl <| WL.p (.pkT rfl rfl rfl) rfl <| WL.nil <| ?_
 exact ⟨leE (lk_b rfl (by unfold penH; first | (simp_all; done) | (simp_all <;> (intros; omega)))), rfl⟩
 have g12' := dT g12
 refine WL.gn rfl rfl rfl g12 <| WL.gn rfl rfl rfl g12 <| WL.gn rfl rfl rfl g12 <| WL.p (.pkT rfl g12 rfl) rfl <| WL.m rfl rfl <| WL.gn rfl rfl rfl rfl <| WL.gn rfl rfl rfl rfl <| WL.gn rfl rfl rfl rfl <| WL.p (.pkT rfl rfl rfl) rfl <| WL.m rfl rfl <| WL.gn rfl rfl rfl rfl <| WL.gn rfl rfl rfl rfl <| WL.gn rfl rfl rfl rfl <| WL.gn rfl rfl rfl rfl <| WL.p (.pkT rfl rfl rfl) rfl <| WL.m rfl rfl <| WL.gn rfl rfl rfl rfl <| WL.gn rfl rfl rfl rfl <| WL.gn rfl rfl rfl rfl <| WL.gn rfl rfl rfl rfl <| WL.p (.pkT rfl rfl rfl) rfl <| WL.nil <| ?_
 exact ⟨leE (lk_b rfl (by unfold penH; first | (simp_all; done) | (simp_all <;> (intros; omega)))), rfl⟩
 have g11' := dT g11
 refine WL.gn rfl rfl rfl g11 <| WL.gn rfl rfl rfl g11 <| WL.p (.pkT rfl g11 rfl) rfl <| WL.m rfl rfl <| WL.gn rfl rfl rfl rfl <| WL.gn rfl rfl rfl rfl <| WL.gn rfl rfl rfl rfl <| WL.gn rfl rfl rfl rfl <| WL.p (.pkT rfl rfl rfl) rfl <| WL.m rfl rfl <| WL.gn rfl rfl rfl rfl <| WL.gn rfl rfl rfl rfl <| WL.gn rfl rfl rfl rfl <| WL.p (.pkT rfl rfl rfl) rfl <| WL.m rfl rfl <| WL.gn rfl rfl rfl rfl <| WL.gn rfl rfl rfl rfl <| WL.gn rfl rfl rfl rfl <| WL.gn rfl rfl rfl rfl <| WL.p (.pkT rfl rfl rfl) rfl <| WL.m rfl rfl <| WL.gn rfl rfl rfl rfl <| WL.gn rfl rfl rfl rfl <| WL.gn rfl rfl rfl rfl <| WL.gn rfl rfl rfl rfl <| WL.p (.pkT rfl rfl rfl) rfl <| WL.nil <| ?_
 exact ⟨leE (lk_b rfl (by unfold penH; first | (simp_all; done) | (simp_all <;> (intros; omega)))), rfl⟩
 have g10' := dT g10
 refine WL.gn rfl rfl rfl g10 <| WL.gn rfl rfl rfl g10 <| WL.p (.pkT rfl g10 rfl) rfl <| WL.m rfl rfl <| WL.gn rfl rfl rfl rfl <| WL.gn rfl rfl rfl rfl <| WL.gn rfl rfl rfl rfl <| WL.p (.pkT rfl rfl rfl) rfl <| WL.m rfl rfl <| WL.gn rfl rfl rfl rfl <| WL.gn rfl rfl rfl rfl <| WL.gn rfl rfl rfl rfl <| WL.gn rfl rfl rfl rfl <| WL.p (.pkT rfl rfl rfl) rfl <| WL.m rfl rfl <| WL.gn rfl rfl rfl rfl <| WL.gn rfl rfl rfl rfl <| WL.gn rfl rfl rfl rfl <| WL.p (.pkT rfl rfl rfl) rfl <| WL.m rfl rfl <| WL.gn rfl rfl rfl rfl <| WL.gn rfl rfl rfl rfl <| WL.gn rfl rfl rfl rfl <| WL.gn rfl rfl rfl rfl <| WL.p (.pkT rfl rfl rfl) rfl <| WL.m rfl rfl <| WL.gn rfl rfl rfl rfl <| WL.gn rfl rfl rfl rfl <| WL.gn rfl rfl rfl rfl <| WL.gn rfl rfl rfl rfl <| WL.p (.pkT rfl rfl rfl) rfl <| WL.nil <| ?_
 exact ⟨leE (lk_b rfl (by unfold penH; first | (simp_all; done) | (simp_all <;> (intros; omega)))), rfl⟩
 have g9' := dT g9
 refine WL.gn rfl rfl rfl g9 <| WL.gn rfl rfl rfl g9 <| WL.p (.pkT rfl g9 rfl) rfl <| WL.m rfl rfl <| WL.gn rfl rfl rfl rfl <| WL.gn rfl rfl rfl rfl <| WL.gn rfl rfl rfl rfl <| WL.p (.pkT rfl rfl rfl) rfl <| WL.m rfl rfl <| WL.gn rfl rfl rfl rfl <| WL.gn rfl rfl rfl rfl <| WL.gn rfl rfl rfl rfl <| WL.p (.pkT rfl rfl rfl) rfl <| WL.m rfl rfl <| WL.gn rfl rfl rfl rfl <| WL.gn rfl rfl rfl rfl <| WL.gn rfl rfl rfl rfl <| WL.gn rfl rfl rfl rfl <| WL.p (.pkT rfl rfl rfl) rfl <| WL.m rfl rfl <| WL.gn rfl rfl rfl rfl <| WL.gn rfl rfl rfl rfl <| WL.gn rfl rfl rfl rfl <| WL.p (.pkT rfl rfl rfl) rfl <| WL.m rfl rfl <| WL.gn rfl rfl rfl rfl <| WL.gn rfl rfl rfl rfl <| WL.gn rfl rfl rfl rfl <| WL.gn rfl rfl rfl rfl <| WL.p (.pkT rfl rfl rfl) rfl <| WL.m rfl rfl <| WL.gn rfl rfl rfl rfl <| WL.gn rfl rfl rfl rfl <| WL.gn rfl rfl rfl rfl <| WL.gn rfl rfl rfl rfl <| WL.p (.pkT rfl rfl rfl) rfl <| WL.nil <| ?_
 exact ⟨leE (lk_b rfl (by unfold penH; first | (simp_all; done) | (simp_all <;> (intros; omega)))), rfl⟩
 have g8' := dT g8
 refine WL.gn rfl rfl rfl g8 <| WL.gn rfl rfl rfl g8 <| WL.p (.pkT rfl g8 rfl) rfl <| WL.m rfl rfl <| WL.gn rfl rfl rfl rfl <| WL.gn rfl rfl rfl rfl <| WL.gn rfl rfl rfl rfl <| WL.p (.pkT rfl rfl rfl) rfl <| WL.m rfl rfl <| WL.gn rfl rfl rfl rfl <| WL.gn rfl rfl rfl rfl <| WL.gn rfl rfl rfl rfl <| WL.p (.pkT rfl rfl rfl) rfl <| WL.m rfl rfl <| WL.gn rfl rfl rfl rfl <| WL.gn rfl rfl rfl rfl <| WL.gn rfl rfl rfl rfl <| WL.p (.pkT rfl rfl rfl) rfl <| WL.m rfl rfl <| WL.gn rfl rfl rfl rfl <| WL.gn rfl rfl rfl rfl <| WL.gn rfl rfl rfl rfl <| WL.gn rfl rfl rfl rfl <| WL.p (.pkT rfl rfl rfl) rfl <| WL.m rfl rfl <| WL.gn rfl rfl rfl rfl <| WL.gn rfl rfl rfl rfl <| WL.gn rfl rfl rfl rfl <| WL.p (.pkT rfl rfl rfl) rfl <| WL.m rfl rfl <| WL.gn rfl rfl rfl rfl <| WL.gn rfl rfl rfl rfl <| WL.gn rfl rfl rfl rfl <| WL.gn rfl rfl rfl rfl <| WL.p (.pkT rfl rfl rfl) rfl <| WL.m rfl rfl <| WL.gn rfl rfl rfl rfl <| WL.gn rfl rfl rfl rfl <| WL.gn rfl rfl rfl rfl <| WL.gn rfl rfl rfl rfl <| WL.p (.pkT rfl rfl rfl) rfl <| WL.nil <| ?_
 exact ⟨leE (lk_b rfl (by unfold penH; first | (simp_all; done) | (simp_all <;> (intros; omega)))), rfl⟩
 have g7' := (nT g7)
 refine WL.gn rfl rfl rfl (by rw [(nT g7)] <;> rfl) <| WL.gn rfl rfl rfl (by rw [(nT g7)] <;> rfl) <| WL.p (.pkT rfl (by rw [(nT g7)] <;> rfl) rfl) rfl <| WL.m rfl rfl <| WL.gn rfl rfl rfl rfl <| WL.gn rfl rfl rfl rfl <| WL.gn rfl rfl rfl rfl <| WL.p (.pkT rfl rfl rfl) rfl <| WL.m rfl rfl <| WL.gn rfl rfl rfl rfl <| WL.gn rfl rfl rfl rfl <| WL.gn rfl rfl rfl rfl <| WL.p (.pkT rfl rfl rfl) rfl <| WL.m rfl rfl <| WL.gn rfl rfl rfl rfl <| WL.gn rfl rfl rfl rfl <| WL.gn rfl rfl rfl rfl <| WL.p (.pkT rfl rfl rfl) rfl <| WL.m rfl rfl <| WL.gn rfl rfl rfl rfl <| WL.gn rfl rfl rfl rfl <| WL.gn rfl rfl rfl rfl <| WL.p (.pkT rfl rfl rfl) rfl <| WL.m rfl rfl <| WL.gn rfl rfl rfl rfl <| WL.gn rfl rfl rfl rfl <| WL.gn rfl rfl rfl rfl <| WL.gn rfl rfl rfl rfl <| WL.p (.pkT rfl rfl rfl) rfl <| WL.m rfl rfl <| WL.gn rfl rfl rfl rfl <| WL.gn rfl rfl rfl rfl <| WL.gn rfl rfl rfl rfl <| WL.p (.pkT rfl rfl rfl) rfl <| WL.m rfl rfl <| WL.gn rfl rfl rfl rfl <| WL.gn rfl rfl rfl rfl <| WL.gn rfl rfl rfl rfl <| WL.gn rfl rfl rfl rfl <| WL.p (.pkT rfl rfl rfl) rfl <| WL.m rfl rfl <| WL.gn rfl rfl rfl rfl <| WL.gn rfl rfl rfl rfl <| WL.gn rfl rfl rfl rfl <| WL.gn rfl rfl rfl rfl <| WL.p (.pkT rfl rfl rfl) rfl <| WL.nil <| ?_
 exact ⟨leE (lk_b rfl (by unfold penH; first | (simp_all; done) | (simp_all <;> (intros; omega)))), rfl⟩
 have g5' := dT g5
 refine WL.gn rfl rfl rfl g5 <| WL.gn rfl rfl rfl g5 <| WL.gn rfl rfl rfl g5 <| WL.p (.pkT rfl g5 rfl) rfl <| WL.m rfl rfl <| WL.gn rfl rfl rfl rfl <| WL.gn rfl rfl rfl rfl <| WL.gn rfl rfl rfl rfl <| WL.p (.pkT rfl rfl rfl) rfl <| WL.m rfl rfl <| WL.gn rfl rfl rfl rfl <| WL.gn rfl rfl rfl rfl <| WL.gn rfl rfl rfl rfl <| WL.p (.pkT rfl rfl rfl) rfl <| WL.m rfl rfl <| WL.gn rfl rfl rfl rfl <| WL.gn rfl rfl rfl rfl <| WL.gn rfl rfl rfl rfl <| WL.p (.pkT rfl rfl rfl) rfl <| WL.m rfl rfl <| WL.gn rfl rfl rfl rfl <| WL.gn rfl rfl rfl rfl <| WL.gn rfl rfl rfl rfl <| WL.p (.pkT rfl rfl rfl) rfl <| WL.m rfl rfl <| WL.gn rfl rfl rfl rfl <| WL.gn rfl rfl rfl rfl <| WL.gn rfl rfl rfl rfl <| WL.p (.pkT rfl rfl rfl) rfl <| WL.m rfl rfl <| WL.gn rfl rfl rfl rfl <| WL.gn rfl rfl rfl rfl <| WL.gn rfl rfl rfl rfl <| WL.gn rfl rfl rfl rfl <| WL.p (.pkT rfl rfl rfl) rfl <| WL.m rfl rfl <| WL.gn rfl rfl rfl rfl <| WL.gn rfl rfl rfl rfl <| WL.gn rfl rfl rfl rfl <| WL.p (.pkT rfl rfl rfl) rfl <| WL.m rfl rfl <| WL.gn rfl rfl rfl rfl <| WL.gn rfl rfl rfl rfl <| WL.gn rfl rfl rfl rfl <| WL.gn rfl rfl rfl rfl <| WL.p (.pkT rfl rfl rfl) rfl <| WL.m rfl rfl <| WL.gn rfl rfl rfl rfl <| WL.gn rfl rfl rfl rfl <| WL.gn rfl rfl rfl rfl <| WL.gn rfl rfl rfl rfl <| WL.p (.pkT rfl rfl rfl) rfl <| WL.nil <| ?_
 exact ⟨leE (lk_b rfl (by unfold penH; first | (simp_all; done) | (simp_all <;> (intros; omega)))), rfl⟩
 refine W.cond rfl (fun h18 => ?_) (fun h18 => ?_)
 refine W.sr <| WL.z rfl rfl ?_
 refine W.ret (W.ret1 rfl rfl ?_)
 first
 | exact ⟨scr_val (by unfold penB; rw [show penH x = true by assumption]; rfl), hB4⟩
 | exact ⟨scr_val (by unfold penB; rw [all_not (q := dashB) (j := i) oO (by simpa using (show (!dashB (x.fDash[i]'oO)) = true by assumption)), Bool.and_false, Bool.false_and]), hB4⟩
 | exact ⟨scr_val (by
   rw [hpe, List.take_of_length_le (show x.fDash.length ≤ i by omega)]
   congr 2
   cases x.fDash <;> simp <;> omega), hB4⟩
 have hp : penH x = false := by assumption
 refine W.skip <| W.sr <| WL.p (.fa underlying84 rfl sizeOf82 dD rfl) rfl <| WL.r (Rd.ld (isAgg82 _) rfl hkb1 rfl) rfl <| WL.p (.lenS underlying82 rfl) rfl <| WL.p (.eql rfl rfl) rfl <| WL.z rfl rfl ?_
 refine W.seq <| W.sr <| WL.z rfl rfl ?_
 refine W.block ?_
 refine W.loop (α := Nat) (fun t => [(1, .pointer (some ⟨b1, 0, none⟩)), (3, .bool (decide ((x.fDash.length : Int) = 0) || (x.fDash.take t).any fun n => decide (0 < n))), (4, .int .i64 (t : Int))]) (fun t w' => wb1 = w' ∧ t ≤ x.fDash.length ∧ ∀ j (hj : j < x.fDash.length), j < t → dashB x.fDash[j] = true) (fun t => x.fDash.length - t) (0) ⟨rfl, lk_b rfl (by simp), rfl, trivial⟩ (⟨rfl, Nat.zero_le _, fun j _ h => absurd h oO⟩) (fun t w1 hR => ?_)
 obtain ⟨i, rfl⟩ : ∃ i, i = t := ⟨t, rfl⟩
 obtain ⟨rfl, hi, hall⟩ := hR
 have hln : x.fDash.length ≤ 11 := by simp only [penH, Bool.or_eq_false_iff, decide_eq_false_iff_not] at hp; omega
 refine W.seq <| W.sr <| WL.m rfl rfl <| WL.p (.fa underlying84 rfl sizeOf82 dD rfl) rfl <| WL.r (Rd.ld (isAgg82 _) rfl hkb1 rfl) rfl <| WL.p (.lenS underlying82 rfl) rfl <| WL.p (.lss rfl rfl) rfl <| WL.nil <| ?_
 refine W.cond rfl (fun h19 => ?_) (fun h19 => ?_)
 have h19' := dT h19
 have htk : ((x.fDash.take (i + 1)).any fun n => decide (0 < n)) = (((x.fDash.take i).any fun n => decide (0 < n)) || decide (0 < x.fDash[i]'oO)) := by
  rw [List.take_add_one, List.getElem?_eq_getElem oO, Option.toList_some, List.any_append]; simp
 refine W.skip <| W.seq <| W.block <| W.seq ?_
 refine W.cutB 87 (!dashB (x.fDash[i]'oO)) ?_ ?_
 refine W.reg <| WL.p (.fa underlying84 rfl sizeOf82 dD rfl) rfl <| WL.r (Rd.ld (isAgg82 _) rfl hkb1 rfl) rfl <| WL.m rfl rfl <| WL.p (.ixb underlying82 sizeOf3 rfl rfl (hv2.isp oO) (i) (rfl) oO) rfl <| WL.r (Rd.ldc (isAgg3 _) rfl (hv2.cells (i) oO)) rfl <| WL.p (.lss rfl rfl) rfl <| WL.m rfl rfl <| WL.gd rfl rfl rfl (fun g20 => ?_) (fun g20 => ?_)
 have g20' := dF g20
 refine WL.p (.fa underlying84 rfl sizeOf82 dD rfl) rfl <| WL.gy rfl rfl rfl g20 <| WL.r (Rd.ld (isAgg82 _) rfl hkb1 rfl) rfl <| WL.gy rfl rfl rfl g20 <| WL.m rfl rfl <| WL.gy rfl rfl rfl g20 <| WL.p (.ixb underlying82 sizeOf3 rfl rfl (hv2.isp oO) (i) (rfl) oO) rfl <| WL.gy rfl rfl rfl g20 <| WL.r (Rd.ldc (isAgg3 _) rfl (hv2.cells (i) oO)) rfl <| WL.gy rfl rfl rfl g20 <| WL.c1 hb62 rfl rfl ((ref_Fits _ _)) (fun w21 hw21 => ?_)
 obtain rfl := hw21
 refine WL.gy rfl rfl rfl g20 <| WL.p (.not rfl) rfl <| WL.p (.pkF rfl g20 rfl) rfl <| WL.nil <| ?_
 exact ⟨leE (lk_b rfl (by unfold dashB; simp_all <;> omega)), rfl⟩
 have g20' := dT g20
 refine WL.gn rfl rfl rfl g20 <| WL.gn rfl rfl rfl g20 <| WL.gn rfl rfl rfl g20 <| WL.gn rfl rfl rfl g20 <| WL.gn rfl rfl rfl g20 <| WL.gn rfl rfl rfl g20 <| WL.p (.pkT rfl g20 rfl) rfl <| WL.nil <| ?_
 exact ⟨leE (lk_b rfl (by unfold dashB; simp_all <;> omega)), rfl⟩
 refine W.cond rfl (fun h22 => ?_) (fun h22 => ?_)
 refine W.sr <| WL.z rfl rfl ?_
 refine W.ret (W.ret1 rfl rfl ?_)
 first
 | exact ⟨scr_val (by unfold penB; rw [show penH x = true by assumption]; rfl), hB4⟩
 | exact ⟨scr_val (by unfold penB; rw [all_not (q := dashB) (j := i) oO (by simpa using (show (!dashB (x.fDash[i]'oO)) = true by assumption)), Bool.and_false, Bool.false_and]), hB4⟩
 | exact ⟨scr_val (by
   rw [hpe, List.take_of_length_le (show x.fDash.length ≤ i by omega)]
   congr 2
   cases x.fDash <;> simp <;> omega), hB4⟩
 refine W.skip <| W.reg <| WL.m rfl rfl <| WL.m rfl rfl <| WL.gd rfl rfl rfl (fun g23 => ?_) (fun g23 => ?_)
 refine WL.p (.fa underlying84 rfl sizeOf82 dD rfl) rfl <| WL.gy rfl rfl rfl g23 <| WL.r (Rd.ld (isAgg82 _) rfl hkb1 rfl) rfl <| WL.gy rfl rfl rfl g23 <| WL.m rfl rfl <| WL.gy rfl rfl rfl g23 <| WL.p (.ixb underlying82 sizeOf3 rfl rfl (hv2.isp oO) (i) (rfl) oO) rfl <| WL.gy rfl rfl rfl g23 <| WL.r (Rd.ldc (isAgg3 _) rfl (hv2.cells (i) oO)) rfl <| WL.gy rfl rfl rfl g23 <| WL.p (.gtr rfl rfl) rfl <| WL.p (.pkF rfl g23 rfl) rfl <| WL.z rfl rfl ?_
 refine W.reg <| WL.m rfl rfl <| WL.p (.iis (((i + 1 : Nat) : Int)) (.add rfl rfl (i64w oO)) oO) rfl <| WL.z rfl rfl ?_
 exact ⟨i + 1, ⟨rfl, lk_b rfl (by rw [htk, ← Bool.or_assoc]; generalize (decide ((x.fDash.length : Int) = 0) || (x.fDash.take i).any fun n => decide (0 < n)) = A at *; simp_all), rfl, trivial⟩, ⟨rfl, by ((try simp only) <;> omega), fun j hj h => by
  rcases Nat.lt_succ_iff_lt_or_eq.1 h with h2 | rfl
  exact hall j hj h2
  simp_all⟩, by ((try simp only) <;> omega)⟩
 refine WL.gn rfl rfl rfl g23 <| WL.gn rfl rfl rfl g23 <| WL.gn rfl rfl rfl g23 <| WL.gn rfl rfl rfl g23 <| WL.gn rfl rfl rfl g23 <| WL.p (.pkT rfl g23 rfl) rfl <| WL.z rfl rfl ?_
 refine W.reg <| WL.m rfl rfl <| WL.p (.iis (((i + 1 : Nat) : Int)) (.add rfl rfl (i64w oO)) oO) rfl <| WL.z rfl rfl ?_
 exact ⟨i + 1, ⟨rfl, lk_b rfl (by rw [htk, ← Bool.or_assoc]; generalize (decide ((x.fDash.length : Int) = 0) || (x.fDash.take i).any fun n => decide (0 < n)) = A at *; simp_all), rfl, trivial⟩, ⟨rfl, by ((try simp only) <;> omega), fun j hj h => by
  rcases Nat.lt_succ_iff_lt_or_eq.1 h with h2 | rfl
  exact hall j hj h2
  simp_all⟩, by ((try simp only) <;> omega)⟩
 have h19' := dF h19
 have hd := all_of (q := dashB) (l := x.fDash) fun j hj => hall j hj oO
 have hpe : penB x = (x.fDash.isEmpty || x.fDash.any fun n => decide (0 < n)) := by unfold penB; rw [hp, hd]; rfl
 refine W.exit <| W.sr <| WL.m rfl rfl <| WL.z rfl rfl ?_
 refine W.ret (W.ret1 rfl rfl ?_)
 first
 | exact ⟨scr_val (by unfold penB; rw [show penH x = true by assumption]; rfl), hB4⟩
 | exact ⟨scr_val (by unfold penB; rw [all_not (q := dashB) (j := i) oO (by simpa using (show (!dashB (x.fDash[i]'oO)) = true by assumption)), Bool.and_false, Bool.false_and]), hB4⟩
 | exact ⟨scr_val (by
   rw [hpe, List.take_of_length_le (show x.fDash.length ≤ i by omega)]
   congr 2
   cases x.fDash <;> simp <;> omega), hB4⟩
end
section
theorem ref_Ints (p q : Option Addr) (l m : List Int) (c d : Nat) (w : World) (hra : RowAt intV w p l) (hrb : RowAt intV w q m) (hl : l.length ≤ 9223372036854775807) :
  Calls Tryz.prog 182 #[.slice p l.length c, .slice q m.length d] w fun e w' => e = .returned (.bool (decide (l = m))) ∧ Below w.heap.size w w' := by
 refine W.enter func182 rfl ntmps182 (Nat.le_of_ble_eq_true rfl) ?_
 have hB0 := Below.refl (w.heap.size) w
 refine W.sr <| WL.z rfl rfl ?_
 refine W.seq <| W.sr <| WL.m rfl rfl <| WL.p (.lenS underlying82 rfl) rfl <| WL.m rfl rfl <| WL.p (.lenS underlying82 rfl) rfl <| WL.p (.neq rfl rfl) rfl <| WL.nil <| ?_
 refine W.cond rfl (fun h1 => ?_) (fun h1 => ?_)
 have h1' := ndT h1
 refine W.sr <| WL.z rfl rfl ?_
 refine W.ret (W.ret1 rfl rfl ?_)
 first
 | exact ⟨scr_val (by rw [decide_eq_false (fun e => by rw [e] at *; omega)]), hB0⟩
 | exact ⟨scr_val (by rw [decide_eq_false (fun e => by subst e; exact absurd rfl aS)]), hB0⟩
 | exact ⟨scr_val (by rw [decide_eq_true (by rw [List.take_of_length_le oO, List.take_of_length_le oO] at heq; exact heq)]), hB0⟩
 have h1' := ndF h1
 have hlm : l.length = m.length := by omega
 refine W.skip <| W.seq <| W.sr <| WL.z rfl rfl ?_
 refine W.block ?_
 refine W.loop (α := Nat) (fun t => [(0, .slice p l.length c), (1, .slice q m.length d), (5, .int .i64 (t : Int))]) (fun t w' => Below w.heap.size w w' ∧ RowAt intV w' p l ∧ RowAt intV w' q m ∧ t ≤ l.length ∧ l.take t = m.take t) (fun t => l.length - t) (0) ⟨rfl, rfl, rfl, trivial⟩ (⟨hB0, hra, hrb, Nat.zero_le _, by simp⟩) (fun t w1 hR => ?_)
 obtain ⟨s, rfl⟩ : ∃ s, s = t := ⟨t, rfl⟩
 obtain ⟨hT, ha, hb, hs, heq⟩ := hR
 refine W.seq <| W.sr <| WL.m rfl rfl <| WL.m rfl rfl <| WL.p (.lenS underlying82 rfl) rfl <| WL.p (.lss rfl rfl) rfl <| WL.nil <| ?_
 refine W.cond rfl (fun h2 => ?_) (fun h2 => ?_)
 have h2' := dT h2
 refine W.skip <| W.seq <| W.block <| W.seq <| W.regQ mixed kR ?_
 refine WQ.p (.mv rfl) rfl <| WQ.p (.mv rfl) rfl <| WQ.p (.ixb underlying82 sizeOf3 rfl rfl (ha.isp oO) (s) oO oO) rfl <| WQ.r (fun m => Rd.ldc (isAgg3 _) rfl ((ha.drewN m).cells (s) oO)) rfl <| WQ.p (.mv rfl) rfl <| WQ.p (.mv rfl) rfl <| WQ.p (.ixb underlying82 sizeOf3 rfl rfl (hb.isp oO) (s) oO oO) rfl <| WQ.r (fun m => Rd.ldc (isAgg3 _) rfl ((hb.drewN m).cells (s) oO)) rfl <| WQ.p (.neq rfl rfl) rfl <| WQ.nil (fun w3 dw3 => ?_)
 have hv4 := ha.drew dw3
 have hv5 := hb.drew dw3
 have hB6 := Drew.below hT dw3
 refine W.cond rfl (fun h7 => ?_) (fun h7 => ?_)
 have h7' := ndT h7
 refine W.sr <| WL.z rfl rfl ?_
 refine W.ret (W.ret1 rfl rfl ?_)
 first
 | exact ⟨scr_val (by rw [decide_eq_false (fun e => by rw [e] at *; omega)]), hB6⟩
 | exact ⟨scr_val (by rw [decide_eq_false (fun e => by subst e; exact absurd rfl aS)]), hB6⟩
 | exact ⟨scr_val (by rw [decide_eq_true (by rw [List.take_of_length_le oO, List.take_of_length_le oO] at heq; exact heq)]), hB6⟩
 have h7' := ndF h7
 refine W.skip <| W.reg <| WL.m rfl rfl <| WL.p (.iis (((s + 1 : Nat) : Int)) (.add rfl rfl (i64w oO)) oO) rfl <| WL.z rfl rfl ?_
 exact ⟨s + 1, ⟨rfl, rfl, rfl, trivial⟩, ⟨hB6, hv4, hv5, by ((try simp only) <;> omega), by
  rw [List.take_add_one, List.take_add_one, List.getElem?_eq_getElem oO, List.getElem?_eq_getElem oO, heq]
  congr 3⟩, by ((try simp only) <;> omega)⟩
 have h2' := dF h2
 refine W.exit <| W.sr <| WL.z rfl rfl ?_
 refine W.ret (W.ret1 rfl rfl ?_)
 first
 | exact ⟨scr_val (by rw [decide_eq_false (fun e => by rw [e] at *; omega)]), hT⟩
 | exact ⟨scr_val (by rw [decide_eq_false (fun e => by subst e; exact absurd rfl aS)]), hT⟩
 | exact ⟨scr_val (by rw [decide_eq_true (by rw [List.take_of_length_le oO, List.take_of_length_le oO] at heq; exact heq)]), hT⟩
def samePenB (x y : PenV) : Bool := decide (x.fWidth = y.fWidth) && decide (x.fCap = y.fCap) && decide (x.fJoin = y.fJoin) && decide (x.fMiter = y.fMiter) && decide (x.fDash = y.fDash) && decide (x.fPhase = y.fPhase)
theorem ref_SamePen (x y : PenV) (w : World) (hx : RowAt intV w x.pfDash x.fDash) (hy : RowAt intV w y.pfDash y.fDash) (hl : x.fDash.length ≤ 9223372036854775807) :
  Calls Tryz.prog 128 #[.agg (penV x).toArray, .agg (penV y).toArray] w fun e w' => e = .returned (.bool (samePenB x y)) ∧ Below w.heap.size w w' := by
 have hxl : 0 < x.fDash.length → (pA x.pfDash).block < w.heap.size := fun h0 => hx.lt h0
 have hyl : 0 < y.fDash.length → (pA y.pfDash).block < w.heap.size := fun h0 => hy.lt h0
 refine W.enter func128 rfl ntmps128 (Nat.le_of_ble_eq_true rfl) ?_
 have hB0 := Below.refl (w.heap.size) w
 refine W.sr <| WL.box rfl rfl (fun b1 wb1 eb1 hkb1 hub1 hsb1 => ?_)
 have hvl3 := fun h0 => eb1 ▸ hx.lt h0
 have hv2 := RowAt.upd hx hub1 (fun h0 => Nat.ne_of_lt (hvl3 h0))
 have hvl5 := fun h0 => eb1 ▸ hy.lt h0
 have hv4 := RowAt.upd hy hub1 (fun h0 => Nat.ne_of_lt (hvl5 h0))
 have hB6 := Upd.below hB0 (by rw [eb1]; exact hB0.size) hub1
 have hgeb1 : w.heap.size ≤ b1 := by rw [eb1]; exact hB0.size
 refine WL.box rfl rfl (fun b7 wb7 eb7 hkb7 hub7 hsb7 => ?_)
 have hl9 : b1 < b7 := by rw [eb7]; exact hkb1.lt
 have hk8 := hkb1.upd hub7 (Nat.ne_of_lt hl9)
 have hvl11 := fun h0 => eb7 ▸ hv2.lt h0
 have hv10 := RowAt.upd hv2 hub7 (fun h0 => Nat.ne_of_lt (hvl11 h0))
 have hvl13 := fun h0 => eb7 ▸ hv4.lt h0
 have hv12 := RowAt.upd hv4 hub7 (fun h0 => Nat.ne_of_lt (hvl13 h0))
 have hB14 := Upd.below hB6 (by rw [eb7]; exact hB6.size) hub7
 have hgeb7 : w.heap.size ≤ b7 := by rw [eb7]; exact hB6.size
 refine WL.z rfl rfl ?_
 refine W.sr <| WL.p (.fa underlying84 rfl sizeOf3 dD rfl) rfl <| WL.r (Rd.ld (isAgg3 _) rfl hk8 rfl) rfl <| WL.p (.fa underlying84 rfl sizeOf3 dD rfl) rfl <| WL.r (Rd.ld (isAgg3 _) rfl hkb7 rfl) rfl <| WL.p (.eql rfl rfl) rfl <| WL.m rfl rfl <| WL.gd rfl rfl rfl (fun g15 => ?_) (fun g15 => ?_)
 have g15' := dT g15
 refine WL.p (.fa underlying84 rfl sizeOf3 dD rfl) rfl <| WL.gy rfl rfl rfl g15 <| WL.r (Rd.ld (isAgg3 _) rfl hk8 rfl) rfl <| WL.gy rfl rfl rfl g15 <| WL.p (.fa underlying84 rfl sizeOf3 dD rfl) rfl <| WL.gy rfl rfl rfl g15 <| WL.r (Rd.ld (isAgg3 _) rfl hkb7 rfl) rfl <| WL.gy rfl rfl rfl g15 <| WL.p (.eql rfl rfl) rfl <| WL.p (.pkT rfl g15 rfl) rfl <| WL.m rfl rfl <| WL.gd rfl rfl rfl (fun g16 => ?_) (fun g16 => ?_)
 have g16' := dT g16
 refine WL.p (.fa underlying84 rfl sizeOf3 dD rfl) rfl <| WL.gy rfl rfl rfl g16 <| WL.r (Rd.ld (isAgg3 _) rfl hk8 rfl) rfl <| WL.gy rfl rfl rfl g16 <| WL.p (.fa underlying84 rfl sizeOf3 dD rfl) rfl <| WL.gy rfl rfl rfl g16 <| WL.r (Rd.ld (isAgg3 _) rfl hkb7 rfl) rfl <| WL.gy rfl rfl rfl g16 <| WL.p (.eql rfl rfl) rfl <| WL.p (.pkT rfl g16 rfl) rfl <| WL.m rfl rfl <| WL.gd rfl rfl rfl (fun g17 => ?_) (fun g17 => ?_)
 have g17' := dT g17
 refine WL.p (.fa underlying84 rfl sizeOf3 dD rfl) rfl <| WL.gy rfl rfl rfl g17 <| WL.r (Rd.ld (isAgg3 _) rfl hk8 rfl) rfl <| WL.gy rfl rfl rfl g17 <| WL.p (.fa underlying84 rfl sizeOf3 dD rfl) rfl <| WL.gy rfl rfl rfl g17 <| WL.r (Rd.ld (isAgg3 _) rfl hkb7 rfl) rfl <| WL.gy rfl rfl rfl g17 <| WL.p (.eql rfl rfl) rfl <| WL.p (.pkT rfl g17 rfl) rfl <| WL.m rfl rfl <| WL.gd rfl rfl rfl (fun g18 => ?_) (fun g18 => ?_)
 have g18' := dT g18
 refine WL.p (.fa underlying84 rfl sizeOf82 dD rfl) rfl <| WL.gy rfl rfl rfl g18 <| WL.r (Rd.ld (isAgg82 _) rfl hk8 rfl) rfl <| WL.gy rfl rfl rfl g18 <| WL.p (.fa underlying84 rfl sizeOf82 dD rfl) rfl <| WL.gy rfl rfl rfl g18 <| WL.r (Rd.ld (isAgg82 _) rfl hkb7 rfl) rfl <| WL.gy rfl rfl rfl g18 <| WL.c1 hb182 rfl rfl ((ref_Ints _ _ _ _ _ _ _ hv10 hv12 hl)) (fun w19 hw19 => ?_)
 have hk20 := hk8.below hw19 hk8.lt
 have hk21 := hkb7.below hw19 hkb7.lt
 have hB24 := btr hB14 hw19
 refine WL.p (.pkT rfl g18 rfl) rfl <| WL.m rfl rfl <| WL.gd rfl rfl rfl (fun g25 => ?_) (fun g25 => ?_)
 refine WL.p (.fa underlying84 rfl sizeOf3 dD rfl) rfl <| WL.gy rfl rfl rfl g25 <| WL.r (Rd.ld (isAgg3 _) rfl hk20 rfl) rfl <| WL.gy rfl rfl rfl g25 <| WL.p (.fa underlying84 rfl sizeOf3 dD rfl) rfl <| WL.gy rfl rfl rfl g25 <| WL.r (Rd.ld (isAgg3 _) rfl hk21 rfl) rfl <| WL.gy rfl rfl rfl g25 <| WL.p (.eql rfl rfl) rfl <| WL.p (.pkT rfl g25 rfl) rfl <| WL.z rfl rfl ?_
 refine W.ret (W.ret1 rfl rfl ?_)
 exact ⟨scr_val (by unfold samePenB; simp_all), hB24⟩
 refine WL.gn rfl rfl rfl g25 <| WL.gn rfl rfl rfl g25 <| WL.gn rfl rfl rfl g25 <| WL.gn rfl rfl rfl g25 <| WL.p (.pkF rfl g25 rfl) rfl <| WL.z rfl rfl ?_
 refine W.ret (W.ret1 rfl rfl ?_)
 exact ⟨scr_val (by unfold samePenB; simp_all), hB24⟩
 have g18' := dF g18
 refine WL.gn rfl rfl rfl g18 <| WL.gn rfl rfl rfl g18 <| WL.gn rfl rfl rfl g18 <| WL.gn rfl rfl rfl g18 <| WL.p (.pkF rfl g18 rfl) rfl <| WL.m rfl rfl <| WL.gn rfl rfl rfl rfl <| WL.gn rfl rfl rfl rfl <| WL.gn rfl rfl rfl rfl <| WL.gn rfl rfl rfl rfl <| WL.gn rfl rfl rfl rfl <| WL.p (.pkF rfl rfl rfl) rfl <| WL.z rfl rfl ?_
 refine W.ret (W.ret1 rfl rfl ?_)
 exact ⟨scr_val (by unfold samePenB; simp_all), hB14⟩
 have g17' := dF g17
 refine WL.gn rfl rfl rfl g17 <| WL.gn rfl rfl rfl g17 <| WL.gn rfl rfl rfl g17 <| WL.gn rfl rfl rfl g17 <| WL.p (.pkF rfl g17 rfl) rfl <| WL.m rfl rfl <| WL.gn rfl rfl rfl rfl <| WL.gn rfl rfl rfl rfl <| WL.gn rfl rfl rfl rfl <| WL.gn rfl rfl rfl rfl <| WL.gn rfl rfl rfl rfl <| WL.p (.pkF rfl rfl rfl) rfl <| WL.m rfl rfl <| WL.gn rfl rfl rfl rfl <| WL.gn rfl rfl rfl rfl <| WL.gn rfl rfl rfl rfl <| WL.gn rfl rfl rfl rfl <| WL.gn rfl rfl rfl rfl <| WL.p (.pkF rfl rfl rfl) rfl <| WL.z rfl rfl ?_
 refine W.ret (W.ret1 rfl rfl ?_)
 exact ⟨scr_val (by unfold samePenB; simp_all), hB14⟩
 have g16' := dF g16
 refine WL.gn rfl rfl rfl g16 <| WL.gn rfl rfl rfl g16 <| WL.gn rfl rfl rfl g16 <| WL.gn rfl rfl rfl g16 <| WL.p (.pkF rfl g16 rfl) rfl <| WL.m rfl rfl <| WL.gn rfl rfl rfl rfl <| WL.gn rfl rfl rfl rfl <| WL.gn rfl rfl rfl rfl <| WL.gn rfl rfl rfl rfl <| WL.gn rfl rfl rfl rfl <| WL.p (.pkF rfl rfl rfl) rfl <| WL.m rfl rfl <| WL.gn rfl rfl rfl rfl <| WL.gn rfl rfl rfl rfl <| WL.gn rfl rfl rfl rfl <| WL.gn rfl rfl rfl rfl <| WL.gn rfl rfl rfl rfl <| WL.p (.pkF rfl rfl rfl) rfl <| WL.m rfl rfl <| WL.gn rfl rfl rfl rfl <| WL.gn rfl rfl rfl rfl <| WL.gn rfl rfl rfl rfl <| WL.gn rfl rfl rfl rfl <| WL.gn rfl rfl rfl rfl <| WL.p (.pkF rfl rfl rfl) rfl <| WL.z rfl rfl ?_
 refine W.ret (W.ret1 rfl rfl ?_)
 exact ⟨scr_val (by unfold samePenB; simp_all), hB14⟩
 have g15' := dF g15
 refine WL.gn rfl rfl rfl g15 <| WL.gn rfl rfl rfl g15 <| WL.gn rfl rfl rfl g15 <| WL.gn rfl rfl rfl g15 <| WL.p (.pkF rfl g15 rfl) rfl <| WL.m rfl rfl <| WL.gn rfl rfl rfl rfl <| WL.gn rfl rfl rfl rfl <| WL.gn rfl rfl rfl rfl <| WL.gn rfl rfl rfl rfl <| WL.gn rfl rfl rfl rfl <| WL.p (.pkF rfl rfl rfl) rfl <| WL.m rfl rfl <| WL.gn rfl rfl rfl rfl <| WL.gn rfl rfl rfl rfl <| WL.gn rfl rfl rfl rfl <| WL.gn rfl rfl rfl rfl <| WL.gn rfl rfl rfl rfl <| WL.p (.pkF rfl rfl rfl) rfl <| WL.m rfl rfl <| WL.gn rfl rfl rfl rfl <| WL.gn rfl rfl rfl rfl <| WL.gn rfl rfl rfl rfl <| WL.gn rfl rfl rfl rfl <| WL.gn rfl rfl rfl rfl <| WL.p (.pkF rfl rfl rfl) rfl <| WL.m rfl rfl <| WL.gn rfl rfl rfl rfl <| WL.gn rfl rfl rfl rfl <| WL.gn rfl rfl rfl rfl <| WL.gn rfl rfl rfl rfl <| WL.gn rfl rfl rfl rfl <| WL.p (.pkF rfl rfl rfl) rfl <| WL.z rfl rfl ?_
 refine W.ret (W.ret1 rfl rfl ?_)
 exact ⟨scr_val (by unfold samePenB; simp_all), hB14⟩
def pen0 : PenV := ⟨0, 0, 0, 0, none, [], 0, 0⟩
theorem pen0_none (x : PenV) : samePenB x pen0 = noneB x := by
 unfold samePenB noneB pen0
 have : decide (x.fDash = []) = decide ((x.fDash.length : Int) = 0) := by
  cases x.fDash with
  | nil => simp
  | cons a l => simp; omega
 rw [this]
theorem RowAt.none {w : World} : RowAt intV w none [] := ⟨fun h => by simp at h, fun j h => by simp at h⟩
/-- the names of the fonts lie where they were laid -/
structure Fonts (w : World) : Prop where
 ex : ∃ names : List (List UInt8), names.length = 14 ∧ (∀ i (h : i < names.length), names[i] ≠ []) ∧ RowAt strV w (some ⟨1, 0, none⟩) names
theorem Fonts.below {w w1 : World} (h : Fonts w) (hb : Below w.heap.size w w1) : Fonts w1 := by
 obtain ⟨names, h1, h2, h3⟩ := h.ex
 exact ⟨names, h1, h2, h3.below hb fun h0 => h3.lt h0⟩
theorem font_Name (n : Int) (w : World) (hF : Fonts w) : Calls Tryz.prog 192 #[.int .i64 n] w fun e w' => ∃ s : List UInt8, e = .returned (.string (bs s)) ∧ (decide (s = []) = (decide (n < 0) || decide (n ≥ 14))) ∧ w = w' := by
 obtain ⟨names, hn, hne, hrow⟩ := hF.ex
 refine W.enter func192 rfl ntmps192 (Nat.le_of_ble_eq_true rfl) ?_
 refine W.sr <| WL.z rfl rfl ?_
 refine W.seq ?_
 refine W.cutB 8 (decide (n < 0) || decide (n ≥ 14)) ?_ ?_
 refine W.reg <| WL.m rfl rfl <| WL.p (.lss rfl rfl) rfl <| WL.m rfl rfl <| WL.gd rfl rfl rfl (fun g1 => ?_) (fun g1 => ?_)
 have g1' := dF g1
 refine WL.m rfl rfl <| WL.gy rfl rfl rfl g1 <| WL.p (.geq rfl rfl) rfl <| WL.p (.pkF rfl g1 rfl) rfl <| WL.nil <| ?_
 exact ⟨leE (lk_b rfl (by first | (simp_all; done) | (simp_all <;> (intros; omega)))), rfl⟩
 have g1' := dT g1
 refine WL.gn rfl rfl rfl g1 <| WL.p (.pkT rfl g1 rfl) rfl <| WL.nil <| ?_
 exact ⟨leE (lk_b rfl (by first | (simp_all; done) | (simp_all <;> (intros; omega)))), rfl⟩
 refine W.cond rfl (fun h2 => ?_) (fun h2 => ?_)
 refine W.sr <| WL.z rfl rfl ?_
 refine W.ret (W.ret1 rfl rfl ?_)
 first
 | exact ⟨[], rfl, by simp_all, rfl⟩
 | exact ⟨_, rfl, by rw [decide_eq_false (hne _ _), decide_eq_false oO, decide_eq_false oO]; rfl, rfl⟩
 have hr2 : 0 ≤ n ∧ n < 14 := by simp_all
 refine W.skip <| W.sr <| WL.m rfl rfl <| WL.p (.ixr1 underlying239 sizeOf9 rfl rfl (n.toNat) oO oO) rfl <| WL.r (Rd.ldc (isAgg9 _) rfl ((hrow).cells (n.toNat) oO)) rfl <| WL.z rfl rfl ?_
 refine W.ret (W.ret1 rfl rfl ?_)
 first
 | exact ⟨[], rfl, by simp_all, rfl⟩
 | exact ⟨_, rfl, by rw [decide_eq_false (hne _ _), decide_eq_false oO, decide_eq_false oO]; rfl, rfl⟩
theorem paint_letters1 (n : Int) (w : World) : Calls Tryz.prog 194 #[.int .i64 n] w fun e w' => e = .returned (.bool (!fitsB n)) ∧ Below w.heap.size w w' := by
 refine W.enter func194 rfl ntmps194 (Nat.le_of_ble_eq_true rfl) ?_
 have hB0 := Below.refl (w.heap.size) w
 refine W.sr <| WL.z rfl rfl ?_
 refine W.sr <| WL.m rfl rfl <| WL.c1 hb195 rfl rfl ((fix_Fits _ _)) (fun w1 hw1 => ?_)
 obtain rfl := hw1
 refine WL.p (.not rfl) rfl <| WL.z rfl rfl ?_
 refine W.ret (W.ret1 rfl rfl ?_)
 exact ⟨rfl, hB0⟩
def clipB (x : ClipV) : Bool := !x.fPath.isEmpty && pathB x.fPath
theorem paint_clips1 (x : ClipV) (w : World) (hr : RowM segL w x.pfPath x.fPath) (hl : x.fPath.length ≤ 9223372036854775807) : Calls Tryz.prog 191 #[.agg (clipV x).toArray] w fun e w' => e = .returned (.bool (!clipB x)) ∧ Below w.heap.size w w' := by
 have hrl : 0 < x.fPath.length → (pA x.pfPath).block < w.heap.size := fun h0 => hr.lt h0
 have he : x.fPath.isEmpty = decide ((x.fPath.length : Int) = 0) := by cases x.fPath <;> simp <;> omega
 refine W.enter func191 rfl ntmps191 (Nat.le_of_ble_eq_true rfl) ?_
 have hB0 := Below.refl (w.heap.size) w
 refine W.sr <| WL.box rfl rfl (fun b1 wb1 eb1 hkb1 hub1 hsb1 => ?_)
 have hvl3 := fun h0 => eb1 ▸ hr.lt h0
 have hv2 := RowM.upd hr hub1 (fun h0 => Nat.ne_of_lt (hvl3 h0))
 have hB4 := Upd.below hB0 (by rw [eb1]; exact hB0.size) hub1
 have hgeb1 : w.heap.size ≤ b1 := by rw [eb1]; exact hB0.size
 refine WL.z rfl rfl ?_
 refine W.sr <| WL.p (.fa underlying89 rfl sizeOf77 dD rfl) rfl <| WL.r (Rd.ld (isAgg77 _) rfl hkb1 rfl) rfl <| WL.p (.lenS underlying77 rfl) rfl <| WL.p (.eql rfl rfl) rfl <| WL.m rfl rfl <| WL.gd rfl rfl rfl (fun g5 => ?_) (fun g5 => ?_)
 have g5' := dF g5
 refine WL.p (.fa underlying89 rfl sizeOf77 dD rfl) rfl <| WL.gy rfl rfl rfl g5 <| WL.r (Rd.ld (isAgg77 _) rfl hkb1 rfl) rfl <| WL.gy rfl rfl rfl g5 <| WL.c1 hb144 rfl rfl ((path_Sound _ _ _ _ hv2 hl)) (fun w6 hw6 => ?_)
 have hB9 := btr hB4 hw6
 refine WL.gy rfl rfl rfl g5 <| WL.p (.not rfl) rfl <| WL.p (.pkF rfl g5 rfl) rfl <| WL.z rfl rfl ?_
 refine W.ret (W.ret1 rfl rfl ?_)
 exact ⟨scr_val (by unfold clipB; rw [he]; simp_all), hB9⟩
 have g5' := dT g5
 refine WL.gn rfl rfl rfl g5 <| WL.gn rfl rfl rfl g5 <| WL.gn rfl rfl rfl g5 <| WL.p (.pkT rfl g5 rfl) rfl <| WL.z rfl rfl ?_
 refine W.ret (W.ret1 rfl rfl ?_)
 exact ⟨scr_val (by unfold clipB; rw [he]; simp_all), hB4⟩
theorem paint_clips (p : Option Addr) (l : List ClipV) (c : Nat) (w : World) (hr : RowM clipL w p l) (hl : l.length ≤ 9223372036854775807) (ho : ∀ x ∈ l, ClipOk w x) :
  Calls Tryz.prog 141 #[.slice p l.length c] w fun e w' => e = .returned (.bool (decide ((l.length : Int) ≤ 16) && l.all clipB)) ∧ Below w.heap.size w w' := by
 refine W.enter func141 rfl ntmps141 (Nat.le_of_ble_eq_true rfl) ?_
 have hB0 := Below.refl (w.heap.size) w
 refine W.sr <| WL.z rfl rfl ?_
 refine W.sr <| WL.m rfl rfl <| WL.p (.lenS underlying81 rfl) rfl <| WL.p (.leq rfl rfl) rfl <| WL.m rfl rfl <| WL.gd rfl rfl rfl (fun g1 => ?_) (fun g1 => ?_)
 have g1' := dT g1
 refine WL.m rfl rfl <| WL.gy rfl rfl rfl g1 <| WL.c1 hb190 rfl rfl ((lib_ContainsClip hb191 p l c (fun x => !clipB x) _ hr hl (fun j h w1 hb1 => paint_clips1 _ _ ((ho _ (List.getElem_mem h)).below hb1).row_fPath (Nat.le_trans (Nat.le_trans (ho _ (List.getElem_mem h)).sl_fPath.le (ho _ (List.getElem_mem h)).sl_fPath.cap) (by unfold maxLen; decide))))) (fun w2 hw2 => ?_)
 have hB3 := btr hB0 hw2
 refine WL.gy rfl rfl rfl g1 <| WL.p (.not rfl) rfl <| WL.p (.pkT rfl g1 rfl) rfl <| WL.z rfl rfl ?_
 refine W.ret (W.ret1 rfl rfl ?_)
 exact ⟨scr_val (by rw [List.all_eq_not_any_not]; first | (rw [decide_eq_false oO]; rfl) | (rw [decide_eq_true oO]; simp_all)), hB3⟩
 have g1' := dF g1
 refine WL.gn rfl rfl rfl g1 <| WL.gn rfl rfl rfl g1 <| WL.p (.pkF rfl g1 rfl) rfl <| WL.z rfl rfl ?_
 refine W.ret (W.ret1 rfl rfl ?_)
 exact ⟨scr_val (by rw [List.all_eq_not_any_not]; first | (rw [decide_eq_false oO]; rfl) | (rw [decide_eq_true oO]; simp_all)), hB0⟩
end
section
theorem eg85 : Tryz.prog.eqGuardType Tryz.prog.depth 85 = false := by kernel_rfl
theorem neA85 (a0 : Int) (a1 : Int) (a2 : Int) (a3 : Int) (a4 : Int) (a5 : Int) (b0 : Int) (b1 : Int) (b2 : Int) (b3 : Int) (b4 : Int) (b5 : Int) (w : World) : (binOp .neq 85 (.agg #[.int .i64 a0, .int .i64 a1, .int .i64 a2, .int .i64 a3, .int .i64 a4, .int .i64 a5]) (.agg #[.int .i64 b0, .int .i64 b1, .int .i64 b2, .int .i64 b3, .int .i64 b4, .int .i64 b5])).run Tryz.prog w = .ok (.bool (!decide (a0 = b0 ∧ a1 = b1 ∧ a2 = b2 ∧ a3 = b3 ∧ a4 = b4 ∧ a5 = b5))) w := by
 refine (run_neq_ints w 85 3 6 underlying85 underlying3 sizeOf3 [a0, a1, a2, a3, a4, a5] [b0, b1, b2, b3, b4, b5] rfl rfl).trans ?_
 rw [show ([a0, a1, a2, a3, a4, a5] == [b0, b1, b2, b3, b4, b5]) = decide (a0 = b0 ∧ a1 = b1 ∧ a2 = b2 ∧ a3 = b3 ∧ a4 = b4 ∧ a5 = b5) from by rw [Bool.eq_iff_iff]; simp]
theorem blz85 : Tryz.prog.built 85 [] = some #[.int .i64 0, .int .i64 0, .int .i64 0, .int .i64 0, .int .i64 0, .int .i64 0] := by kernel_rfl
def mats (x : ItemV) : List Int := [x.fMatrix_0, x.fMatrix_1, x.fMatrix_2, x.fMatrix_3, x.fMatrix_4, x.fMatrix_5]
def matL : Lay ItemV := ⟨6, fun x => [.int .i64 x.fMatrix_0, .int .i64 x.fMatrix_1, .int .i64 x.fMatrix_2, .int .i64 x.fMatrix_3, .int .i64 x.fMatrix_4, .int .i64 x.fMatrix_5], by decide, fun _ => rfl, fun x u hu => List.all_eq_true.1 (show ([.int .i64 x.fMatrix_0, .int .i64 x.fMatrix_1, .int .i64 x.fMatrix_2, .int .i64 x.fMatrix_3, .int .i64 x.fMatrix_4, .int .i64 x.fMatrix_5] : List Value).all Value.oneCell' = true from rfl) u hu⟩
theorem mats_row {w : World} {b : Nat} {t : TypeId} {x : ItemV} (h : Blk w b (itemV x).toArray t) : RowAt intV w (some ⟨b, 15, none⟩) (mats x) := ⟨fun _ => rfl, fun j hj => by
 show w.cell? ((⟨b, 15, none⟩ : Addr).add j) = _
 have h' : j < 6 := hj
 rw [add_lit, h.cell]
 obtain rfl | rfl | rfl | rfl | rfl | rfl : j = 0 ∨ j = 1 ∨ j = 2 ∨ j = 3 ∨ j = 4 ∨ j = 5 := by omega
 all_goals rfl⟩
theorem mats_row' {w : World} {b : Nat} {t : TypeId} {x : ItemV} (h : Blk w b (itemV x).toArray t) : RowAt intV w (some (if 6 = 0 then (⟨b, 15, none⟩ : Addr) else (⟨b, 15, none⟩ : Addr).add (0 * 1))) (mats x) := by
 rw [if_neg dD, add_lit]; exact mats_row h
def mat0 (x : ItemV) : Bool := decide (x.fMatrix_0 = 0 ∧ x.fMatrix_1 = 0 ∧ x.fMatrix_2 = 0 ∧ x.fMatrix_3 = 0 ∧ x.fMatrix_4 = 0 ∧ x.fMatrix_5 = 0)
def lettersB (x : ItemV) : Bool := decide (0 ≤ x.fFont) && decide (x.fFont ≤ 13) && decide ((x.fBytes.length : Int) ≥ 1) && decide ((x.fBytes.length : Int) ≤ 65535) && (mats x).all fitsB
def clipsB (l : List ClipV) : Bool := decide ((l.length : Int) ≤ 16) && l.all clipB
def restB (x : ItemV) : Bool := decide (x.fFont = 0) && mat0 x && decide ((x.fBytes.length : Int) = 0) && !decide ((x.fPath.length : Int) = 0) && pathB x.fPath
def itemB (x : ItemV) : Bool := colorB x.fColor && clipsB x.fClips &&
  (if x.fKind = 4 then lettersB x && decide ((x.fPath.length : Int) = 0) && noneB x.fPen
   else restB x && (if x.fKind = 1 ∨ x.fKind = 2 then noneB x.fPen else if x.fKind = 3 then penB x.fPen else false))
theorem SlOk.len {α : Type} {p : Option Addr} {l : List α} {c : Nat} (h : SlOk p l c) : l.length ≤ 9223372036854775807 := Nat.le_trans (Nat.le_trans h.le h.cap) (by unfold maxLen; decide)
theorem paint_letters (x : ItemV) (w : World) (hF : Fonts w) : Calls Tryz.prog 142 #[.agg (itemV x).toArray] w fun e w' => e = .returned (.bool (lettersB x)) ∧ Below w.heap.size w w' := by
 refine W.enter func142 rfl ntmps142 (Nat.le_of_ble_eq_true rfl) ?_
 have hB0 := Below.refl (w.heap.size) w
 refine W.sr <| WL.box rfl rfl (fun b1 wb1 eb1 hkb1 hub1 hsb1 => ?_)
 have hB2 := Upd.below hB0 (by rw [eb1]; exact hB0.size) hub1
 have hgeb1 : w.heap.size ≤ b1 := by rw [eb1]; exact hB0.size
 refine WL.z rfl rfl ?_
 refine W.sr <| WL.p (.fa underlying87 rfl sizeOf3 dD rfl) rfl <| WL.r (Rd.ld (isAgg3 _) rfl hkb1 rfl) rfl <| WL.call hb192 rfl rfl ((font_Name _ _ (hF.below hB2))) (fun s w3 hw3 => ?_)
 obtain ⟨hs, rfl⟩ := hw3
 refine WL.p (.nes rfl rfl) rfl <| WL.m rfl rfl <| WL.gd rfl rfl rfl (fun g4 => ?_) (fun g4 => ?_)
 have g4' := ndT g4
 refine WL.p (.fa underlying87 rfl sizeOf22 dD rfl) rfl <| WL.gy rfl rfl rfl g4 <| WL.r (Rd.ld (isAgg22 _) rfl hkb1 rfl) rfl <| WL.gy rfl rfl rfl g4 <| WL.p (.lenS underlying22 rfl) rfl <| WL.gy rfl rfl rfl g4 <| WL.p (.geq rfl rfl) rfl <| WL.p (.pkT rfl g4 rfl) rfl <| WL.m rfl rfl <| WL.gd rfl rfl rfl (fun g5 => ?_) (fun g5 => ?_)
 have g5' := dT g5
 refine WL.p (.fa underlying87 rfl sizeOf22 dD rfl) rfl <| WL.gy rfl rfl rfl g5 <| WL.r (Rd.ld (isAgg22 _) rfl hkb1 rfl) rfl <| WL.gy rfl rfl rfl g5 <| WL.p (.lenS underlying22 rfl) rfl <| WL.gy rfl rfl rfl g5 <| WL.p (.leq rfl rfl) rfl <| WL.p (.pkT rfl g5 rfl) rfl <| WL.m rfl rfl <| WL.gd rfl rfl rfl (fun g6 => ?_) (fun g6 => ?_)
 have g6' := dT g6
 refine WL.p (.fa underlying87 rfl sizeOf85 dD rfl) rfl <| WL.gy rfl rfl rfl g6 <| WL.p (.sla underlying85 sizeOf3 rfl) rfl <| WL.gy rfl rfl rfl g6 <| WL.c1 hb193 rfl rfl ((lib_ContainsInt hb194 _ (mats x) 6 (fun n => !fitsB n) _ (mats_row' hkb1) (by simp [mats]) (fun j h w1 _ => paint_letters1 _ _))) (fun w7 hw7 => ?_)
 have hB9 := btr hB2 hw7
 refine WL.gy rfl rfl rfl g6 <| WL.p (.not rfl) rfl <| WL.p (.pkT rfl g6 rfl) rfl <| WL.z rfl rfl ?_
 refine W.ret (W.ret1 rfl rfl ?_)
 exact ⟨scr_val (by unfold lettersB; rw [List.all_eq_not_any_not]; generalize (mats x).any _ = A at *; first | (simp_all; done) | (simp_all <;> omega)), hB9⟩
 have g6' := dF g6
 refine WL.gn rfl rfl rfl g6 <| WL.gn rfl rfl rfl g6 <| WL.gn rfl rfl rfl g6 <| WL.p (.pkF rfl g6 rfl) rfl <| WL.z rfl rfl ?_
 refine W.ret (W.ret1 rfl rfl ?_)
 exact ⟨scr_val (by unfold lettersB; rw [List.all_eq_not_any_not]; generalize (mats x).any _ = A at *; first | (simp_all; done) | (simp_all <;> omega)), hB2⟩
 have g5' := dF g5
 refine WL.gn rfl rfl rfl g5 <| WL.gn rfl rfl rfl g5 <| WL.gn rfl rfl rfl g5 <| WL.p (.pkF rfl g5 rfl) rfl <| WL.m rfl rfl <| WL.gn rfl rfl rfl rfl <| WL.gn rfl rfl rfl rfl <| WL.gn rfl rfl rfl rfl <| WL.gn rfl rfl rfl rfl <| WL.p (.pkF rfl rfl rfl) rfl <| WL.z rfl rfl ?_
 refine W.ret (W.ret1 rfl rfl ?_)
 exact ⟨scr_val (by unfold lettersB; rw [List.all_eq_not_any_not]; generalize (mats x).any _ = A at *; first | (simp_all; done) | (simp_all <;> omega)), hB2⟩
 have g4' := ndF g4
 refine WL.gn rfl rfl rfl g4 <| WL.gn rfl rfl rfl g4 <| WL.gn rfl rfl rfl g4 <| WL.p (.pkF rfl g4 rfl) rfl <| WL.m rfl rfl <| WL.gn rfl rfl rfl rfl <| WL.gn rfl rfl rfl rfl <| WL.gn rfl rfl rfl rfl <| WL.gn rfl rfl rfl rfl <| WL.p (.pkF rfl rfl rfl) rfl <| WL.m rfl rfl <| WL.gn rfl rfl rfl rfl <| WL.gn rfl rfl rfl rfl <| WL.gn rfl rfl rfl rfl <| WL.gn rfl rfl rfl rfl <| WL.p (.pkF rfl rfl rfl) rfl <| WL.z rfl rfl ?_
 refine W.ret (W.ret1 rfl rfl ?_)
 exact ⟨scr_val (by unfold lettersB; rw [List.all_eq_not_any_not]; generalize (mats x).any _ = A at *; first | (simp_all; done) | (simp_all <;> omega)), hB2⟩
end
section
theorem itemB_4 {x : ItemV} (hc : colorB x.fColor = true) (hl : clipsB x.fClips = true) (h : x.fKind = 4) : itemB x = (lettersB x && decide ((x.fPath.length : Int) = 0) && noneB x.fPen) := by unfold itemB; rw [hc, hl, if_pos h]; rfl
theorem itemB_n {x : ItemV} (hc : colorB x.fColor = true) (hl : clipsB x.fClips = true) (h : ¬ x.fKind = 4) (hr : restB x = true) : itemB x = (if x.fKind = 1 ∨ x.fKind = 2 then noneB x.fPen else if x.fKind = 3 then penB x.fPen else false) := by unfold itemB; rw [hc, hl, if_neg h, hr]; rfl
theorem itemB_r {x : ItemV} (h : ¬ x.fKind = 4) (hr : restB x = false) : itemB x = false := by unfold itemB; rw [if_neg h, hr]; simp
theorem itemB_c {x : ItemV} (h : colorB x.fColor = false) : itemB x = false := by unfold itemB; rw [h]; rfl
theorem itemB_l {x : ItemV} (h : clipsB x.fClips = false) : itemB x = false := by unfold itemB; rw [h]; simp
/-- the looks of 'rest', as the code asks them -/
def restQ (x : ItemV) : Bool := !decide (x.fFont = 0) || !mat0 x || decide ((x.fBytes.length : Int) > 0) || decide ((x.fPath.length : Int) = 0) || !pathB x.fPath
theorem restQ_eq (x : ItemV) : restB x = !restQ x := by
 have e : decide ((x.fBytes.length : Int) > 0) = !decide ((x.fBytes.length : Int) = 0) := by rw [Bool.eq_iff_iff]; simp only [decide_eq_true_eq, Bool.not_eq_true', decide_eq_false_iff_not]; omega
 unfold restB restQ; rw [e]
 cases decide (x.fFont = 0) <;> cases mat0 x <;> cases decide ((x.fBytes.length : Int) = 0) <;> cases decide ((x.fPath.length : Int) = 0) <;> cases pathB x.fPath <;> rfl
theorem restB_no {x : ItemV} (h : restQ x = true) : restB x = false := by rw [restQ_eq, h]; rfl
theorem restB_yes {x : ItemV} (h : restQ x = false) : restB x = true := by rw [restQ_eq, h]; rfl
theorem paint_item (x : ItemV) (w : World) (hF : Fonts w) (hx : ItemOk w x) : Calls Tryz.prog 100 #[.agg (itemV x).toArray] w fun e w' => e = .returned (.bool (itemB x)) ∧ Below w.heap.size w w' := by
 have hrl : 0 < x.fPath.length → (pA x.pfPath).block < w.heap.size := fun h0 => hx.row_fPath.lt h0
 refine W.enter func100 rfl ntmps100 (Nat.le_of_ble_eq_true rfl) ?_
 have hB0 := Below.refl (w.heap.size) w
 refine W.sr <| WL.box rfl rfl (fun b1 wb1 eb1 hkb1 hub1 hsb1 => ?_)
 have hB2 := Upd.below hB0 (by rw [eb1]; exact hB0.size) hub1
 have hgeb1 : w.heap.size ≤ b1 := by rw [eb1]; exact hB0.size
 refine WL.z rfl rfl ?_
 refine W.seq ?_
 refine W.cut (α := Unit) (fun t => [(1, .pointer (some ⟨b1, 0, none⟩)), (12, .bool (!colorB x.fColor || !clipsB x.fClips))]) (fun t w' => Below w.heap.size w w' ∧ Blk w' b1 (itemV x).toArray 87) ?_ (fun t w1 hR => ?_)
 refine W.reg <| WL.p (.fa underlying87 rfl sizeOf80 dD rfl) rfl <| WL.r (Rd.ldF (L := colorL) underlying80 rfl isz80 hkb1 (x.fColor) (rfl) rfl) rfl <| WL.c1 hb140 rfl rfl ((paint_color x.fColor _)) (fun w3 hw3 => ?_)
 have hk4 := hkb1.below hw3 hkb1.lt
 have hB5 := btr hB2 hw3
 refine WL.p (.not rfl) rfl <| WL.m rfl rfl <| WL.gd rfl rfl rfl (fun g6 => ?_) (fun g6 => ?_)
 have g6' := (nF g6)
 refine WL.p (.fa underlying87 rfl sizeOf81 dD rfl) rfl <| WL.gy rfl rfl rfl (by rw [(nF g6)] <;> rfl) <| WL.r (Rd.ld (isAgg81 _) rfl hk4 rfl) rfl <| WL.gy rfl rfl rfl (by rw [(nF g6)] <;> rfl) <| WL.c1 hb141 rfl rfl ((paint_clips _ _ _ _ (hx.below hB5).row_fClips hx.sl_fClips.len (hx.below hB5).all_fClips)) (fun w7 hw7 => ?_)
 have hk8 := hk4.below hw7 hk4.lt
 have hB9 := btr hB5 hw7
 refine WL.gy rfl rfl rfl (by rw [(nF g6)] <;> rfl) <| WL.p (.not rfl) rfl <| WL.p (.pkF rfl (by rw [(nF g6)] <;> rfl) rfl) rfl <| WL.nil <| ?_
 exact ⟨(), ⟨rfl, lk_b rfl (by unfold clipsB; generalize colorB x.fColor = A at *; generalize x.fClips.all clipB = B at *; simp_all), trivial⟩, hB9, hk8⟩
 have g6' := (nT g6)
 refine WL.gn rfl rfl rfl (by rw [(nT g6)] <;> rfl) <| WL.gn rfl rfl rfl (by rw [(nT g6)] <;> rfl) <| WL.gn rfl rfl rfl (by rw [(nT g6)] <;> rfl) <| WL.p (.pkT rfl (by rw [(nT g6)] <;> rfl) rfl) rfl <| WL.nil <| ?_
 exact ⟨(), ⟨rfl, lk_b rfl (by unfold clipsB; generalize colorB x.fColor = A at *; generalize x.fClips.all clipB = B at *; simp_all), trivial⟩, hB5, hk4⟩
 obtain ⟨hj1, hj2⟩ := hR
 refine W.cond rfl (fun h10 => ?_) (fun h10 => ?_)
 have hcq : (!colorB x.fColor || !clipsB x.fClips) = true := by assumption
 refine W.sr <| WL.z rfl rfl ?_
 refine W.ret (W.ret1 rfl rfl ?_)
 first
 | exact ⟨scr_val (by rw [itemB_4 hcc hcl aS]; simp_all), hj1⟩
 | exact ⟨scr_val (by rw [itemB_n hcc hcl aS hrest, if_pos (.inl aS)]), hj1⟩
 | exact ⟨scr_val (by rw [itemB_n hcc hcl aS hrest, if_pos (.inr aS)]), hj1⟩
 | exact ⟨scr_val (by rw [itemB_n hcc hcl aS hrest, if_neg oO, if_pos aS]), hj1⟩
 | exact ⟨scr_val (by rw [itemB_n hcc hcl aS hrest, if_neg oO, if_neg aS]), hj1⟩
 | exact ⟨scr_val (by rw [itemB_r aS (restB_no aS)]), hj1⟩
 | exact ⟨scr_val (by rcases Bool.or_eq_true_iff.1 hcq with h | h; exact congrArg _ (itemB_c (by simpa using h)).symm; exact congrArg _ (itemB_l (by simpa using h)).symm), hj1⟩
 have hcc : colorB x.fColor = true := by simp_all
 have hcl : clipsB x.fClips = true := by simp_all
 refine W.skip <| W.seq <| W.sr <| WL.p (.fa underlying87 rfl sizeOf3 dD rfl) rfl <| WL.r (Rd.ld (isAgg3 _) rfl hj2 rfl) rfl <| WL.p (.eql rfl rfl) rfl <| WL.nil <| ?_
 refine W.cond rfl (fun h11 => ?_) (fun h11 => ?_)
 have h11' := dT h11
 refine W.sr <| WL.r (Rd.ldA rfl hj2 underlying87 rfl isz87) rfl <| WL.c1 hb142 rfl rfl ((paint_letters x _ (hF.below hj1))) (fun w12 hw12 => ?_)
 have hk13 := hj2.below hw12 hj2.lt
 have hB14 := btr hj1 hw12
 refine WL.m rfl rfl <| WL.gd rfl rfl rfl (fun g15 => ?_) (fun g15 => ?_)
 refine WL.p (.fa underlying87 rfl sizeOf77 dD rfl) rfl <| WL.gy rfl rfl rfl g15 <| WL.r (Rd.ld (isAgg77 _) rfl hk13 rfl) rfl <| WL.gy rfl rfl rfl g15 <| WL.p (.lenS underlying77 rfl) rfl <| WL.gy rfl rfl rfl g15 <| WL.p (.eql rfl rfl) rfl <| WL.p (.pkT rfl g15 rfl) rfl <| WL.m rfl rfl <| WL.gd rfl rfl rfl (fun g16 => ?_) (fun g16 => ?_)
 have g16' := dT g16
 refine WL.p (.fa underlying87 rfl sizeOf84 dD rfl) rfl <| WL.gy rfl rfl rfl g16 <| WL.r (Rd.ldF (L := penL) underlying84 rfl isz84 hk13 (x.fPen) (rfl) rfl) rfl <| WL.gy rfl rfl rfl g16 <| WL.c1 hb143 rfl rfl ((paint_none x.fPen _)) (fun w17 hw17 => ?_)
 have hB19 := btr hB14 hw17
 refine WL.p (.pkT rfl g16 rfl) rfl <| WL.z rfl rfl ?_
 refine W.ret (W.ret1 rfl rfl ?_)
 first
 | exact ⟨scr_val (by rw [itemB_4 hcc hcl aS]; simp_all), hB19⟩
 | exact ⟨scr_val (by rw [itemB_n hcc hcl aS hrest, if_pos (.inl aS)]), hB19⟩
 | exact ⟨scr_val (by rw [itemB_n hcc hcl aS hrest, if_pos (.inr aS)]), hB19⟩
 | exact ⟨scr_val (by rw [itemB_n hcc hcl aS hrest, if_neg oO, if_pos aS]), hB19⟩
 | exact ⟨scr_val (by rw [itemB_n hcc hcl aS hrest, if_neg oO, if_neg aS]), hB19⟩
 | exact ⟨scr_val (by rw [itemB_r aS (restB_no aS)]), hB19⟩
 | exact ⟨scr_val (by rcases Bool.or_eq_true_iff.1 hcq with h | h; exact congrArg _ (itemB_c (by simpa using h)).symm; exact congrArg _ (itemB_l (by simpa using h)).symm), hB19⟩
 have g16' := dF g16
 refine WL.gn rfl rfl rfl g16 <| WL.gn rfl rfl rfl g16 <| WL.p (.pkF rfl g16 rfl) rfl <| WL.z rfl rfl ?_
 refine W.ret (W.ret1 rfl rfl ?_)
 first
 | exact ⟨scr_val (by rw [itemB_4 hcc hcl aS]; simp_all), hB14⟩
 | exact ⟨scr_val (by rw [itemB_n hcc hcl aS hrest, if_pos (.inl aS)]), hB14⟩
 | exact ⟨scr_val (by rw [itemB_n hcc hcl aS hrest, if_pos (.inr aS)]), hB14⟩
 | exact ⟨scr_val (by rw [itemB_n hcc hcl aS hrest, if_neg oO, if_pos aS]), hB14⟩
 | exact ⟨scr_val (by rw [itemB_n hcc hcl aS hrest, if_neg oO, if_neg aS]), hB14⟩
 | exact ⟨scr_val (by rw [itemB_r aS (restB_no aS)]), hB14⟩
 | exact ⟨scr_val (by rcases Bool.or_eq_true_iff.1 hcq with h | h; exact congrArg _ (itemB_c (by simpa using h)).symm; exact congrArg _ (itemB_l (by simpa using h)).symm), hB14⟩
 refine WL.gn rfl rfl rfl g15 <| WL.gn rfl rfl rfl g15 <| WL.gn rfl rfl rfl g15 <| WL.p (.pkF rfl g15 rfl) rfl <| WL.m rfl rfl <| WL.gn rfl rfl rfl rfl <| WL.gn rfl rfl rfl rfl <| WL.gn rfl rfl rfl rfl <| WL.p (.pkF rfl rfl rfl) rfl <| WL.z rfl rfl ?_
 refine W.ret (W.ret1 rfl rfl ?_)
 first
 | exact ⟨scr_val (by rw [itemB_4 hcc hcl aS]; simp_all), hB14⟩
 | exact ⟨scr_val (by rw [itemB_n hcc hcl aS hrest, if_pos (.inl aS)]), hB14⟩
 | exact ⟨scr_val (by rw [itemB_n hcc hcl aS hrest, if_pos (.inr aS)]), hB14⟩
 | exact ⟨scr_val (by rw [itemB_n hcc hcl aS hrest, if_neg oO, if_pos aS]), hB14⟩
 | exact ⟨scr_val (by rw [itemB_n hcc hcl aS hrest, if_neg oO, if_neg aS]), hB14⟩
 | exact ⟨scr_val (by rw [itemB_r aS (restB_no aS)]), hB14⟩
 | exact ⟨scr_val (by rcases Bool.or_eq_true_iff.1 hcq with h | h; exact congrArg _ (itemB_c (by simpa using h)).symm; exact congrArg _ (itemB_l (by simpa using h)).symm), hB14⟩
 have h11' := dF h11
 refine W.skip <| W.seq ?_
 refine W.cut (α := Unit) (fun t => [(1, .pointer (some ⟨b1, 0, none⟩)), (55, .bool (restQ x))]) (fun t w' => Below w.heap.size w w' ∧ Blk w' b1 (itemV x).toArray 87) ?_ (fun t w1 hR => ?_)
 refine W.reg <| WL.p (.fa underlying87 rfl sizeOf3 dD rfl) rfl <| WL.r (Rd.ld (isAgg3 _) rfl hj2 rfl) rfl <| WL.p (.neq rfl rfl) rfl <| WL.m rfl rfl <| WL.gd rfl rfl rfl (fun g20 => ?_) (fun g20 => ?_)
 have g20' := ndF g20
 refine WL.p (.fa underlying87 rfl sizeOf85 dD rfl) rfl <| WL.gy rfl rfl rfl g20 <| WL.r (Rd.ldF (L := matL) underlying85 rfl isz85 hj2 (x) (rfl) rfl) rfl <| WL.gy rfl rfl rfl g20 <| ?_
 refine WL.p (.build (ps := []) (vs := []) rfl blz85) rfl ?_
 refine WL.gy rfl rfl rfl g20 <| WL.p (.neAgg rfl rfl eg85 (neA85 _ _ _ _ _ _ _ _ _ _ _ _)) rfl <| WL.p (.pkF rfl g20 rfl) rfl <| WL.m rfl rfl <| WL.gd rfl rfl rfl (fun g21 => ?_) (fun g21 => ?_)
 refine WL.p (.fa underlying87 rfl sizeOf22 dD rfl) rfl <| WL.gy rfl rfl rfl g21 <| WL.r (Rd.ld (isAgg22 _) rfl hj2 rfl) rfl <| WL.gy rfl rfl rfl g21 <| WL.p (.lenS underlying22 rfl) rfl <| WL.gy rfl rfl rfl g21 <| WL.p (.gtr rfl rfl) rfl <| WL.p (.pkF rfl g21 rfl) rfl <| WL.m rfl rfl <| WL.gd rfl rfl rfl (fun g22 => ?_) (fun g22 => ?_)
 have g22' := dF g22
 refine WL.p (.fa underlying87 rfl sizeOf77 dD rfl) rfl <| WL.gy rfl rfl rfl g22 <| WL.r (Rd.ld (isAgg77 _) rfl hj2 rfl) rfl <| WL.gy rfl rfl rfl g22 <| WL.p (.lenS underlying77 rfl) rfl <| WL.gy rfl rfl rfl g22 <| WL.p (.eql rfl rfl) rfl <| WL.p (.pkF rfl g22 rfl) rfl <| WL.m rfl rfl <| WL.gd rfl rfl rfl (fun g23 => ?_) (fun g23 => ?_)
 have g23' := dF g23
 refine WL.p (.fa underlying87 rfl sizeOf77 dD rfl) rfl <| WL.gy rfl rfl rfl g23 <| WL.r (Rd.ld (isAgg77 _) rfl hj2 rfl) rfl <| WL.gy rfl rfl rfl g23 <| WL.c1 hb144 rfl rfl ((path_Sound _ _ _ _ (hx.below hj1).row_fPath hx.sl_fPath.len)) (fun w24 hw24 => ?_)
 have hk25 := hj2.below hw24 hj2.lt
 have hB26 := btr hj1 hw24
 refine WL.gy rfl rfl rfl g23 <| WL.p (.not rfl) rfl <| WL.p (.pkF rfl g23 rfl) rfl <| WL.nil <| ?_
 exact ⟨(), ⟨rfl, lk_b rfl (by unfold restQ mat0; generalize pathB x.fPath = A at *; first | (simp_all; done) | (rw [decide_eq_true (show (x.fBytes.length : Int) > 0 by omega)]; simp_all; done) | (rw [decide_eq_false (show ¬ (x.fBytes.length : Int) > 0 by omega)]; simp_all; done)), trivial⟩, hB26, hk25⟩
 have g23' := dT g23
 refine WL.gn rfl rfl rfl g23 <| WL.gn rfl rfl rfl g23 <| WL.gn rfl rfl rfl g23 <| WL.p (.pkT rfl g23 rfl) rfl <| WL.nil <| ?_
 exact ⟨(), ⟨rfl, lk_b rfl (by unfold restQ mat0; generalize pathB x.fPath = A at *; first | (simp_all; done) | (rw [decide_eq_true (show (x.fBytes.length : Int) > 0 by omega)]; simp_all; done) | (rw [decide_eq_false (show ¬ (x.fBytes.length : Int) > 0 by omega)]; simp_all; done)), trivial⟩, hj1, hj2⟩
 have g22' := dT g22
 refine WL.gn rfl rfl rfl g22 <| WL.gn rfl rfl rfl g22 <| WL.gn rfl rfl rfl g22 <| WL.p (.pkT rfl g22 rfl) rfl <| WL.m rfl rfl <| WL.gn rfl rfl rfl rfl <| WL.gn rfl rfl rfl rfl <| WL.gn rfl rfl rfl rfl <| WL.gn rfl rfl rfl rfl <| WL.p (.pkT rfl rfl rfl) rfl <| WL.nil <| ?_
 exact ⟨(), ⟨rfl, lk_b rfl (by unfold restQ mat0; generalize pathB x.fPath = A at *; first | (simp_all; done) | (rw [decide_eq_true (show (x.fBytes.length : Int) > 0 by omega)]; simp_all; done) | (rw [decide_eq_false (show ¬ (x.fBytes.length : Int) > 0 by omega)]; simp_all; done)), trivial⟩, hj1, hj2⟩
 refine WL.gn rfl rfl rfl g21 <| WL.gn rfl rfl rfl g21 <| WL.gn rfl rfl rfl g21 <| WL.p (.pkT rfl g21 rfl) rfl <| WL.m rfl rfl <| WL.gn rfl rfl rfl rfl <| WL.gn rfl rfl rfl rfl <| WL.gn rfl rfl rfl rfl <| WL.gn rfl rfl rfl rfl <| WL.p (.pkT rfl rfl rfl) rfl <| WL.m rfl rfl <| WL.gn rfl rfl rfl rfl <| WL.gn rfl rfl rfl rfl <| WL.gn rfl rfl rfl rfl <| WL.gn rfl rfl rfl rfl <| WL.p (.pkT rfl rfl rfl) rfl <| WL.nil <| ?_
 exact ⟨(), ⟨rfl, lk_b rfl (by unfold restQ mat0; generalize pathB x.fPath = A at *; first | (simp_all; done) | (rw [decide_eq_true (show (x.fBytes.length : Int) > 0 by omega)]; simp_all; done) | (rw [decide_eq_false (show ¬ (x.fBytes.length : Int) > 0 by omega)]; simp_all; done)), trivial⟩, hj1, hj2⟩
 have g20' := ndT g20
 refine WL.gn rfl rfl rfl g20 <| WL.gn rfl rfl rfl g20 <| WL.gn rfl rfl rfl g20 <| WL.p (.pkT rfl g20 rfl) rfl <| WL.m rfl rfl <| WL.gn rfl rfl rfl rfl <| WL.gn rfl rfl rfl rfl <| WL.gn rfl rfl rfl rfl <| WL.gn rfl rfl rfl rfl <| WL.p (.pkT rfl rfl rfl) rfl <| WL.m rfl rfl <| WL.gn rfl rfl rfl rfl <| WL.gn rfl rfl rfl rfl <| WL.gn rfl rfl rfl rfl <| WL.gn rfl rfl rfl rfl <| WL.p (.pkT rfl rfl rfl) rfl <| WL.m rfl rfl <| WL.gn rfl rfl rfl rfl <| WL.gn rfl rfl rfl rfl <| WL.gn rfl rfl rfl rfl <| WL.gn rfl rfl rfl rfl <| WL.p (.pkT rfl rfl rfl) rfl <| WL.nil <| ?_
 exact ⟨(), ⟨rfl, lk_b rfl (by unfold restQ mat0; generalize pathB x.fPath = A at *; first | (simp_all; done) | (rw [decide_eq_true (show (x.fBytes.length : Int) > 0 by omega)]; simp_all; done) | (rw [decide_eq_false (show ¬ (x.fBytes.length : Int) > 0 by omega)]; simp_all; done)), trivial⟩, hj1, hj2⟩
 obtain ⟨hk1, hk2⟩ := hR
 refine W.cond rfl (fun h27 => ?_) (fun h27 => ?_)
 refine W.sr <| WL.z rfl rfl ?_
 refine W.ret (W.ret1 rfl rfl ?_)
 first
 | exact ⟨scr_val (by rw [itemB_4 hcc hcl aS]; simp_all), hk1⟩
 | exact ⟨scr_val (by rw [itemB_n hcc hcl aS hrest, if_pos (.inl aS)]), hk1⟩
 | exact ⟨scr_val (by rw [itemB_n hcc hcl aS hrest, if_pos (.inr aS)]), hk1⟩
 | exact ⟨scr_val (by rw [itemB_n hcc hcl aS hrest, if_neg oO, if_pos aS]), hk1⟩
 | exact ⟨scr_val (by rw [itemB_n hcc hcl aS hrest, if_neg oO, if_neg aS]), hk1⟩
 | exact ⟨scr_val (by rw [itemB_r aS (restB_no aS)]), hk1⟩
 | exact ⟨scr_val (by rcases Bool.or_eq_true_iff.1 hcq with h | h; exact congrArg _ (itemB_c (by simpa using h)).symm; exact congrArg _ (itemB_l (by simpa using h)).symm), hk1⟩
 have hrest : restB x = true := restB_yes aS
 refine W.skip <| W.seq <| W.sr <| WL.p (.fa underlying87 rfl sizeOf3 dD rfl) rfl <| WL.r (Rd.ld (isAgg3 _) rfl hk2 rfl) rfl <| WL.nil <| ?_
 refine W.block <| W.seq <| W.sr <| WL.p (.eql rfl rfl) rfl <| WL.z rfl rfl ?_
 refine W.cond rfl (fun h28 => ?_) (fun h28 => ?_)
 have h28' := dT h28
 refine W.skip <| W.condT rfl h28 ?_
 refine W.sr <| WL.p (.fa underlying87 rfl sizeOf84 dD rfl) rfl <| WL.r (Rd.ldF (L := penL) underlying84 rfl isz84 hk2 (x.fPen) (rfl) rfl) rfl <| WL.c1 hb143 rfl rfl ((paint_none x.fPen _)) (fun w29 hw29 => ?_)
 have hB31 := btr hk1 hw29
 refine WL.z rfl rfl ?_
 refine W.ret (W.ret1 rfl rfl ?_)
 first
 | exact ⟨scr_val (by rw [itemB_4 hcc hcl aS]; simp_all), hB31⟩
 | exact ⟨scr_val (by rw [itemB_n hcc hcl aS hrest, if_pos (.inl aS)]), hB31⟩
 | exact ⟨scr_val (by rw [itemB_n hcc hcl aS hrest, if_pos (.inr aS)]), hB31⟩
 | exact ⟨scr_val (by rw [itemB_n hcc hcl aS hrest, if_neg oO, if_pos aS]), hB31⟩
 | exact ⟨scr_val (by rw [itemB_n hcc hcl aS hrest, if_neg oO, if_neg aS]), hB31⟩
 | exact ⟨scr_val (by rw [itemB_r aS (restB_no aS)]), hB31⟩
 | exact ⟨scr_val (by rcases Bool.or_eq_true_iff.1 hcq with h | h; exact congrArg _ (itemB_c (by simpa using h)).symm; exact congrArg _ (itemB_l (by simpa using h)).symm), hB31⟩
 have h28' := dF h28
 refine W.reg <| WL.p (.eql rfl rfl) rfl <| WL.z rfl rfl ?_
 refine W.cond rfl (fun h32 => ?_) (fun h32 => ?_)
 have h32' := dT h32
 refine W.sr <| WL.p (.fa underlying87 rfl sizeOf84 dD rfl) rfl <| WL.r (Rd.ldF (L := penL) underlying84 rfl isz84 hk2 (x.fPen) (rfl) rfl) rfl <| WL.c1 hb143 rfl rfl ((paint_none x.fPen _)) (fun w33 hw33 => ?_)
 have hB35 := btr hk1 hw33
 refine WL.z rfl rfl ?_
 refine W.ret (W.ret1 rfl rfl ?_)
 first
 | exact ⟨scr_val (by rw [itemB_4 hcc hcl aS]; simp_all), hB35⟩
 | exact ⟨scr_val (by rw [itemB_n hcc hcl aS hrest, if_pos (.inl aS)]), hB35⟩
 | exact ⟨scr_val (by rw [itemB_n hcc hcl aS hrest, if_pos (.inr aS)]), hB35⟩
 | exact ⟨scr_val (by rw [itemB_n hcc hcl aS hrest, if_neg oO, if_pos aS]), hB35⟩
 | exact ⟨scr_val (by rw [itemB_n hcc hcl aS hrest, if_neg oO, if_neg aS]), hB35⟩
 | exact ⟨scr_val (by rw [itemB_r aS (restB_no aS)]), hB35⟩
 | exact ⟨scr_val (by rcases Bool.or_eq_true_iff.1 hcq with h | h; exact congrArg _ (itemB_c (by simpa using h)).symm; exact congrArg _ (itemB_l (by simpa using h)).symm), hB35⟩
 have h32' := dF h32
 refine W.sr <| WL.p (.eql rfl rfl) rfl <| WL.z rfl rfl ?_
 refine W.cond rfl (fun h36 => ?_) (fun h36 => ?_)
 have h36' := dT h36
 refine W.sr <| WL.p (.fa underlying87 rfl sizeOf84 dD rfl) rfl <| WL.r (Rd.ldF (L := penL) underlying84 rfl isz84 hk2 (x.fPen) (rfl) rfl) rfl <| WL.c1 hb145 rfl rfl ((paint_pen x.fPen _ (hx.below hk1).ok_fPen.row_fDash)) (fun w37 hw37 => ?_)
 have hB39 := btr hk1 hw37
 refine WL.z rfl rfl ?_
 refine W.ret (W.ret1 rfl rfl ?_)
 first
 | exact ⟨scr_val (by rw [itemB_4 hcc hcl aS]; simp_all), hB39⟩
 | exact ⟨scr_val (by rw [itemB_n hcc hcl aS hrest, if_pos (.inl aS)]), hB39⟩
 | exact ⟨scr_val (by rw [itemB_n hcc hcl aS hrest, if_pos (.inr aS)]), hB39⟩
 | exact ⟨scr_val (by rw [itemB_n hcc hcl aS hrest, if_neg oO, if_pos aS]), hB39⟩
 | exact ⟨scr_val (by rw [itemB_n hcc hcl aS hrest, if_neg oO, if_neg aS]), hB39⟩
 | exact ⟨scr_val (by rw [itemB_r aS (restB_no aS)]), hB39⟩
 | exact ⟨scr_val (by rcases Bool.or_eq_true_iff.1 hcq with h | h; exact congrArg _ (itemB_c (by simpa using h)).symm; exact congrArg _ (itemB_l (by simpa using h)).symm), hB39⟩
 have h36' := dF h36
 refine W.skip <| W.sr <| WL.z rfl rfl ?_
 refine W.ret (W.ret1 rfl rfl ?_)
 first
 | exact ⟨scr_val (by rw [itemB_4 hcc hcl aS]; simp_all), hk1⟩
 | exact ⟨scr_val (by rw [itemB_n hcc hcl aS hrest, if_pos (.inl aS)]), hk1⟩
 | exact ⟨scr_val (by rw [itemB_n hcc hcl aS hrest, if_pos (.inr aS)]), hk1⟩
 | exact ⟨scr_val (by rw [itemB_n hcc hcl aS hrest, if_neg oO, if_pos aS]), hk1⟩
 | exact ⟨scr_val (by rw [itemB_n hcc hcl aS hrest, if_neg oO, if_neg aS]), hk1⟩
 | exact ⟨scr_val (by rw [itemB_r aS (restB_no aS)]), hk1⟩
 | exact ⟨scr_val (by rcases Bool.or_eq_true_iff.1 hcq with h | h; exact congrArg _ (itemB_c (by simpa using h)).symm; exact congrArg _ (itemB_l (by simpa using h)).symm), hk1⟩
theorem paint_Sound1 (x : ItemV) (w : World) (hF : Fonts w) (hx : ItemOk w x) : Calls Tryz.prog 99 #[.agg (itemV x).toArray] w fun e w' => e = .returned (.bool (!itemB x)) ∧ Below w.heap.size w w' := by
 refine W.enter func99 rfl ntmps99 (Nat.le_of_ble_eq_true rfl) ?_
 have hB0 := Below.refl (w.heap.size) w
 refine W.sr <| WL.box rfl rfl (fun b1 wb1 eb1 hkb1 hub1 hsb1 => ?_)
 have hB2 := Upd.below hB0 (by rw [eb1]; exact hB0.size) hub1
 have hgeb1 : w.heap.size ≤ b1 := by rw [eb1]; exact hB0.size
 refine WL.z rfl rfl ?_
 refine W.sr <| WL.r (Rd.ldA rfl hkb1 underlying87 rfl isz87) rfl <| WL.c1 hb100 rfl rfl ((paint_item x _ (hF.below hB2) (hx.below hB2))) (fun w3 hw3 => ?_)
 have hB5 := btr hB2 hw3
 refine WL.p (.not rfl) rfl <| WL.z rfl rfl ?_
 refine W.ret (W.ret1 rfl rfl ?_)
 exact ⟨rfl, hB5⟩
def pageB (x : PageV) : Bool := sideB x.fWidth && sideB x.fHeight && decide ((x.fItems.length : Int) ≤ 4096) && x.fItems.all itemB
theorem paint_Sound (x : PageV) (w : World) (hF : Fonts w) (hx : PageOk w x) : Calls Tryz.prog 56 #[.agg (pageV x).toArray] w fun e w' => e = .returned (.bool (pageB x)) ∧ Below w.heap.size w w' := by
 refine W.enter func56 rfl ntmps56 (Nat.le_of_ble_eq_true rfl) ?_
 have hB0 := Below.refl (w.heap.size) w
 refine W.sr <| WL.box rfl rfl (fun b1 wb1 eb1 hkb1 hub1 hsb1 => ?_)
 have hB2 := Upd.below hB0 (by rw [eb1]; exact hB0.size) hub1
 have hgeb1 : w.heap.size ≤ b1 := by rw [eb1]; exact hB0.size
 refine WL.z rfl rfl ?_
 refine W.sr <| WL.p (.fa underlying76 rfl sizeOf3 dD rfl) rfl <| WL.r (Rd.ld (isAgg3 _) rfl hkb1 rfl) rfl <| WL.c1 hb97 rfl rfl ((paint_side _ _)) (fun w3 hw3 => ?_)
 obtain rfl := hw3
 refine WL.m rfl rfl <| WL.gd rfl rfl rfl (fun g4 => ?_) (fun g4 => ?_)
 refine WL.p (.fa underlying76 rfl sizeOf3 dD rfl) rfl <| WL.gy rfl rfl rfl g4 <| WL.r (Rd.ld (isAgg3 _) rfl hkb1 rfl) rfl <| WL.gy rfl rfl rfl g4 <| WL.c1 hb97 rfl rfl ((paint_side _ _)) (fun w5 hw5 => ?_)
 obtain rfl := hw5
 refine WL.p (.pkT rfl g4 rfl) rfl <| WL.m rfl rfl <| WL.gd rfl rfl rfl (fun g6 => ?_) (fun g6 => ?_)
 refine WL.p (.fa underlying76 rfl sizeOf74 dD rfl) rfl <| WL.gy rfl rfl rfl g6 <| WL.r (Rd.ld (isAgg74 _) rfl hkb1 rfl) rfl <| WL.gy rfl rfl rfl g6 <| WL.p (.lenS underlying74 rfl) rfl <| WL.gy rfl rfl rfl g6 <| WL.p (.leq rfl rfl) rfl <| WL.p (.pkT rfl g6 rfl) rfl <| WL.m rfl rfl <| WL.gd rfl rfl rfl (fun g7 => ?_) (fun g7 => ?_)
 have g7' := dT g7
 refine WL.p (.fa underlying76 rfl sizeOf74 dD rfl) rfl <| WL.gy rfl rfl rfl g7 <| WL.r (Rd.ld (isAgg74 _) rfl hkb1 rfl) rfl <| WL.gy rfl rfl rfl g7 <| WL.c1 hb98 rfl rfl ((lib_ContainsItem hb99 _ _ _ (fun x => !itemB x) _ (hx.below hB2).row_fItems hx.sl_fItems.len (fun j h w1 hb1 => paint_Sound1 _ _ ((hF.below hB2).below hb1) (((hx.below hB2).all_fItems _ (List.getElem_mem h)).below hb1)))) (fun w8 hw8 => ?_)
 have hB10 := btr hB2 hw8
 refine WL.gy rfl rfl rfl g7 <| WL.p (.not rfl) rfl <| WL.p (.pkT rfl g7 rfl) rfl <| WL.z rfl rfl ?_
 refine W.ret (W.ret1 rfl rfl ?_)
 exact ⟨scr_val (by unfold pageB; rw [List.all_eq_not_any_not]; generalize x.fItems.any _ = A at *; first | (simp_all; done) | (rw [decide_eq_false oO]; simp_all; done) | (rw [decide_eq_true oO]; simp_all; done)), hB10⟩
 have g7' := dF g7
 refine WL.gn rfl rfl rfl g7 <| WL.gn rfl rfl rfl g7 <| WL.gn rfl rfl rfl g7 <| WL.p (.pkF rfl g7 rfl) rfl <| WL.z rfl rfl ?_
 refine W.ret (W.ret1 rfl rfl ?_)
 exact ⟨scr_val (by unfold pageB; rw [List.all_eq_not_any_not]; generalize x.fItems.any _ = A at *; first | (simp_all; done) | (rw [decide_eq_false oO]; simp_all; done) | (rw [decide_eq_true oO]; simp_all; done)), hB2⟩
 refine WL.gn rfl rfl rfl g6 <| WL.gn rfl rfl rfl g6 <| WL.gn rfl rfl rfl g6 <| WL.p (.pkF rfl g6 rfl) rfl <| WL.m rfl rfl <| WL.gn rfl rfl rfl rfl <| WL.gn rfl rfl rfl rfl <| WL.gn rfl rfl rfl rfl <| WL.gn rfl rfl rfl rfl <| WL.p (.pkF rfl rfl rfl) rfl <| WL.z rfl rfl ?_
 refine W.ret (W.ret1 rfl rfl ?_)
 exact ⟨scr_val (by unfold pageB; rw [List.all_eq_not_any_not]; generalize x.fItems.any _ = A at *; first | (simp_all; done) | (rw [decide_eq_false oO]; simp_all; done) | (rw [decide_eq_true oO]; simp_all; done)), hB2⟩
 refine WL.gn rfl rfl rfl g4 <| WL.gn rfl rfl rfl g4 <| WL.p (.pkF rfl g4 rfl) rfl <| WL.m rfl rfl <| WL.gn rfl rfl rfl rfl <| WL.gn rfl rfl rfl rfl <| WL.gn rfl rfl rfl rfl <| WL.gn rfl rfl rfl rfl <| WL.p (.pkF rfl rfl rfl) rfl <| WL.m rfl rfl <| WL.gn rfl rfl rfl rfl <| WL.gn rfl rfl rfl rfl <| WL.gn rfl rfl rfl rfl <| WL.gn rfl rfl rfl rfl <| WL.p (.pkF rfl rfl rfl) rfl <| WL.z rfl rfl ?_
 refine W.ret (W.ret1 rfl rfl ?_)
 exact ⟨scr_val (by unfold pageB; rw [List.all_eq_not_any_not]; generalize x.fItems.any _ = A at *; first | (simp_all; done) | (rw [decide_eq_false oO]; simp_all; done) | (rw [decide_eq_true oO]; simp_all; done)), hB2⟩
theorem script_Print1 (x : PageV) (w : World) (hF : Fonts w) (hx : PageOk w x) : Calls Tryz.prog 82 #[.agg (pageV x).toArray] w fun e w' => e = .returned (.bool (!pageB x)) ∧ Below w.heap.size w w' := by
 refine W.enter func82 rfl ntmps82 (Nat.le_of_ble_eq_true rfl) ?_
 have hB0 := Below.refl (w.heap.size) w
 refine W.sr <| WL.box rfl rfl (fun b1 wb1 eb1 hkb1 hub1 hsb1 => ?_)
 have hB2 := Upd.below hB0 (by rw [eb1]; exact hB0.size) hub1
 have hgeb1 : w.heap.size ≤ b1 := by rw [eb1]; exact hB0.size
 refine WL.z rfl rfl ?_
 refine W.sr <| WL.r (Rd.ldA rfl hkb1 underlying76 rfl isz76) rfl <| WL.c1 hb56 rfl rfl ((paint_Sound x _ (hF.below hB2) (hx.below hB2))) (fun w3 hw3 => ?_)
 have hB5 := btr hB2 hw3
 refine WL.p (.not rfl) rfl <| WL.z rfl rfl ?_
 refine W.ret (W.ret1 rfl rfl ?_)
 exact ⟨rfl, hB5⟩
end
section
def lettersQ (x : ItemV) : Bool := decide (x.fFont ≥ 0) && decide (x.fFont ≤ 13) && decide ((x.fBytes.length : Int) ≥ 1) && decide ((x.fBytes.length : Int) ≤ 65535) && decide ((x.fPath.length : Int) = 0) && noneB x.fPen
theorem lettersQ_eq {x : ItemV} (h : (mats x).all fitsB = true) : lettersQ x = (lettersB x && decide ((x.fPath.length : Int) = 0) && noneB x.fPen) := by
 unfold lettersQ lettersB; rw [h, Bool.and_true]
theorem lettersB_no {x : ItemV} (h : (mats x).all fitsB = false) : lettersB x = false := by unfold lettersB; rw [h, Bool.and_false]
/-- what the document asks of an item that is no text -/
def restR (x : ItemV) : Bool := decide (x.fKind < 1) || decide (x.fKind > 3) || restQ x
theorem itemB_q {x : ItemV} (hc : colorB x.fColor = true) (hl : clipsB x.fClips = true) (h : ¬ x.fKind = 4) (hr : restR x = true) : itemB x = false := by
 cases hq : restB x with
 | false => exact itemB_r h hq
 | true =>
  have h2 : restQ x = false := by rw [restQ_eq] at hq; simpa using hq
  unfold restR at hr
  rw [h2, Bool.or_false, Bool.or_eq_true, decide_eq_true_eq, decide_eq_true_eq] at hr
  rw [itemB_n hc hl h hq, if_neg oO, if_neg oO]
theorem clips_all {l : List ClipV} (h1 : (l.length : Int) ≤ 16) (h : ∀ j (hj : j < l.length), clipB l[j] = true) : clipsB l = true := by
 unfold clipsB; rw [decide_eq_true h1, all_of h]; rfl
theorem clips_no {l : List ClipV} {j : Nat} (hj : j < l.length) (h : clipB l[j] = false) : clipsB l = false := by
 unfold clipsB; rw [all_not hj h, Bool.and_false]
set_option maxHeartbeats 1600000 in
theorem ref_SoundItem (x : ItemV) (w : World) (hx : ItemOk w x) : Calls Tryz.prog 90 #[.agg (itemV x).toArray] w fun e w' => e = .returned (.bool (itemB x)) ∧ Below w.heap.size w w' := by
 have hrl : 0 < x.fClips.length → (pA x.pfClips).block < w.heap.size := fun h0 => hx.row_fClips.lt h0
 refine W.enter func90 rfl ntmps90 (Nat.le_of_ble_eq_true rfl) ?_
 have hB0 := Below.refl (w.heap.size) w
 refine W.sr <| WL.box rfl rfl (fun b1 wb1 eb1 hkb1 hub1 hsb1 => ?_)
 have hB2 := Upd.below hB0 (by rw [eb1]; exact hB0.size) hub1
 have hgeb1 : w.heap.size ≤ b1 := by rw [eb1]; exact hB0.size
 refine WL.z rfl rfl ?_
 refine W.sr <| WL.p (.fa underlying87 rfl sizeOf80 dD rfl) rfl <| WL.r (Rd.ldF (L := colorL) underlying80 rfl isz80 hkb1 (x.fColor) (rfl) rfl) rfl <| WL.alloc zeroValue80 rfl (fun b3 wb3 eb3 hkb3 hub3 hsb3 => ?_)
 have hl5 : b1 < b3 := by rw [eb3]; exact hkb1.lt
 have hk4 := hkb1.upd hub3 (Nat.ne_of_lt hl5)
 have hB6 := Upd.below hB2 (by rw [eb3]; exact hB2.size) hub3
 have hgeb3 : w.heap.size ≤ b3 := by rw [eb3]; exact hB2.size
 refine WL.stL rfl rfl hkb3 isz80 rfl rfl (fun w7 hkw7 huw7 hsw7 => ?_)
 have hk8 := hk4.up huw7
 have hB9 := Upd.below hB6 oO huw7
 refine WL.nil <| ?_
 refine W.seq ?_
 refine W.cutB 22 (!spaceB x.fColor.fSpace) ?_ ?_
 refine W.reg <| WL.p (.fa underlying80 rfl sizeOf3 dD rfl) rfl <| WL.r (Rd.ld (isAgg3 _) rfl hkw7 rfl) rfl <| WL.p (.neq rfl rfl) rfl <| WL.m rfl rfl <| WL.gd rfl rfl rfl (fun g10 => ?_) (fun g10 => ?_)
 have g10' := ndT g10
 refine WL.p (.fa underlying80 rfl sizeOf3 dD rfl) rfl <| WL.gy rfl rfl rfl g10 <| WL.r (Rd.ld (isAgg3 _) rfl hkw7 rfl) rfl <| WL.gy rfl rfl rfl g10 <| WL.p (.neq rfl rfl) rfl <| WL.p (.pkT rfl g10 rfl) rfl <| WL.m rfl rfl <| WL.gd rfl rfl rfl (fun g11 => ?_) (fun g11 => ?_)
 have g11' := ndT g11
 refine WL.p (.fa underlying80 rfl sizeOf3 dD rfl) rfl <| WL.gy rfl rfl rfl g11 <| WL.r (Rd.ld (isAgg3 _) rfl hkw7 rfl) rfl <| WL.gy rfl rfl rfl g11 <| WL.p (.neq rfl rfl) rfl <| WL.p (.pkT rfl g11 rfl) rfl <| WL.nil <| ?_
 exact ⟨leE (lk_b rfl (by unfold spaceB; simp_all)), rfl⟩
 have g11' := ndF g11
 refine WL.gn rfl rfl rfl g11 <| WL.gn rfl rfl rfl g11 <| WL.p (.pkF rfl g11 rfl) rfl <| WL.nil <| ?_
 exact ⟨leE (lk_b rfl (by unfold spaceB; simp_all)), rfl⟩
 have g10' := ndF g10
 refine WL.gn rfl rfl rfl g10 <| WL.gn rfl rfl rfl g10 <| WL.p (.pkF rfl g10 rfl) rfl <| WL.m rfl rfl <| WL.gn rfl rfl rfl rfl <| WL.gn rfl rfl rfl rfl <| WL.gn rfl rfl rfl rfl <| WL.p (.pkF rfl rfl rfl) rfl <| WL.nil <| ?_
 exact ⟨leE (lk_b rfl (by unfold spaceB; simp_all)), rfl⟩
 refine W.cond rfl (fun h12 => ?_) (fun h12 => ?_)
 refine W.sr <| WL.z rfl rfl ?_
 refine W.ret (W.ret1 rfl rfl ?_)
 first
 | exact ⟨scr_val (by rw [itemB_n hcc hcs aS hrest, if_neg oO, if_pos aS]), hB9⟩
 | exact ⟨scr_val (by rw [itemB_n hcc hcs aS hrest, if_pos oO]), hB9⟩
 | exact ⟨scr_val (by rw [itemB_q hcc hcs aS hrq]), hB9⟩
 | exact ⟨scr_val (by rw [itemB_4 hcc hcs aS, ← hlq]; unfold lettersQ; first | (simp_all; done) | (simp_all <;> omega)), hB9⟩
 | exact ⟨scr_val (by rw [itemB_4 hcc hcs aS, lettersB_no (all_not hml (by simpa using (show (!fitsB _) = true by assumption)))]; rfl), hB9⟩
 | exact ⟨scr_val (by rw [itemB_l (clips_no hil (by simpa using (show (!clipB _) = true by assumption)))]), hB9⟩
 | exact ⟨scr_val (by rw [itemB_c (colorB_no hkl (by simpa using (show (!partB _ _ _) = true by assumption)))]), hB9⟩
 | exact ⟨scr_val (by rw [itemB_c (by unfold colorB; rw [show spaceB x.fColor.fSpace = false from by simpa using (show (!spaceB _) = true by assumption)]; rfl)]), hB9⟩
 | exact ⟨scr_val (by rw [itemB_l (by unfold clipsB; rw [decide_eq_false oO]; rfl)]), hB9⟩
 have hsp : spaceB x.fColor.fSpace = true := by simp_all
 refine W.skip <| W.seq <| W.sr <| WL.z rfl rfl ?_
 refine W.block ?_
 refine W.loop (α := Nat) (fun t => [(1, .pointer (some ⟨b1, 0, none⟩)), (3, .pointer (some ⟨b3, 0, none⟩)), (4, .int .i64 (t : Int))]) (fun t w' => w7 = w' ∧ t ≤ 4 ∧ ∀ i (hi : i < (parts x.fColor).length), i < t → partB x.fColor i hi = true) (fun t => 4 - t) (0) ⟨rfl, rfl, rfl, trivial⟩ (⟨rfl, by decide, fun i _ h => absurd h oO⟩) (fun t w1 hR => ?_)
 obtain ⟨k, rfl⟩ : ∃ k, k = t := ⟨t, rfl⟩
 obtain ⟨rfl, hk, hall⟩ := hR
 refine W.seq <| W.sr <| WL.m rfl rfl <| WL.p (.lss rfl rfl) rfl <| WL.nil <| ?_
 refine W.cond rfl (fun h13 => ?_) (fun h13 => ?_)
 have h13' := dT h13
 have hkl : k < (parts x.fColor).length := by simp [parts]; omega
 refine W.skip <| W.seq <| W.block ?_
 refine W.cutB 51 (!partB x.fColor k hkl) ?_ ?_
 refine W.reg <| WL.m rfl rfl <| WL.p (.fa underlying80 rfl sizeOf78 dD rfl) rfl <| WL.p (.ixr1 underlying78 sizeOf3 rfl rfl (k) (rfl) oO) rfl <| WL.r (Rd.ldc (isAgg3 _) rfl ((parts_row hkw7).cells (k) oO)) rfl <| WL.p (.lss rfl rfl) rfl <| WL.m rfl rfl <| WL.gd rfl rfl rfl (fun g14 => ?_) (fun g14 => ?_)
 have g14' := dF g14
 refine WL.m rfl rfl <| WL.gy rfl rfl rfl g14 <| WL.p (.fa underlying80 rfl sizeOf78 dD rfl) rfl <| WL.gy rfl rfl rfl g14 <| WL.p (.ixr1 underlying78 sizeOf3 rfl rfl (k) (rfl) oO) rfl <| WL.gy rfl rfl rfl g14 <| WL.r (Rd.ldc (isAgg3 _) rfl ((parts_row hkw7).cells (k) oO)) rfl <| WL.gy rfl rfl rfl g14 <| WL.p (.gtr rfl rfl) rfl <| WL.p (.pkF rfl g14 rfl) rfl <| WL.m rfl rfl <| WL.gd rfl rfl rfl (fun g15 => ?_) (fun g15 => ?_)
 have g15' := dF g15
 refine WL.m rfl rfl <| WL.gy rfl rfl rfl g15 <| WL.p (.fa underlying80 rfl sizeOf3 dD rfl) rfl <| WL.gy rfl rfl rfl g15 <| WL.r (Rd.ld (isAgg3 _) rfl hkw7 rfl) rfl <| WL.gy rfl rfl rfl g15 <| WL.p (.geq rfl rfl) rfl <| WL.gy rfl rfl rfl g15 <| WL.m rfl rfl <| WL.gd rfl rfl rfl (fun g16 => ?_) (fun g16 => ?_)
 have g16' := dT g16
 refine WL.m rfl rfl <| WL.gy rfl rfl rfl g16 <| WL.p (.fa underlying80 rfl sizeOf78 dD rfl) rfl <| WL.gy rfl rfl rfl g16 <| WL.p (.ixr1 underlying78 sizeOf3 rfl rfl (k) (rfl) oO) rfl <| WL.gy rfl rfl rfl g16 <| WL.r (Rd.ldc (isAgg3 _) rfl ((parts_row hkw7).cells (k) oO)) rfl <| WL.gy rfl rfl rfl g16 <| WL.p (.neq rfl rfl) rfl <| WL.gy rfl rfl rfl g15 <| WL.p (.pkT rfl g16 rfl) rfl <| WL.p (.pkF rfl g15 rfl) rfl <| WL.nil <| ?_
 exact ⟨leE (lk_b rfl (by unfold partB; first | (simp_all; done) | (simp_all <;> (intros; omega)))), rfl⟩
 have g16' := dF g16
 refine WL.gn rfl rfl rfl g16 <| WL.gn rfl rfl rfl g16 <| WL.gn rfl rfl rfl g16 <| WL.gn rfl rfl rfl g16 <| WL.gy rfl rfl rfl g15 <| WL.p (.pkF rfl g16 rfl) rfl <| WL.p (.pkF rfl g15 rfl) rfl <| WL.nil <| ?_
 exact ⟨leE (lk_b rfl (by unfold partB; first | (simp_all; done) | (simp_all <;> (intros; omega)))), rfl⟩
 have g15' := dT g15
 refine WL.gn rfl rfl rfl g15 <| WL.gn rfl rfl rfl g15 <| WL.gn rfl rfl rfl g15 <| WL.gn rfl rfl rfl g15 <| WL.gu rfl rfl rfl <| WL.gu rfl rfl rfl <| WL.gu rfl rfl rfl <| WL.gu rfl rfl rfl <| WL.gu rfl rfl rfl <| WL.gn rfl rfl rfl g15 <| WL.p (.pkT rfl g15 rfl) rfl <| WL.nil <| ?_
 exact ⟨leE (lk_b rfl (by unfold partB; first | (simp_all; done) | (simp_all <;> (intros; omega)))), rfl⟩
 have g14' := dT g14
 refine WL.gn rfl rfl rfl g14 <| WL.gn rfl rfl rfl g14 <| WL.gn rfl rfl rfl g14 <| WL.gn rfl rfl rfl g14 <| WL.p (.pkT rfl g14 rfl) rfl <| WL.m rfl rfl <| WL.gn rfl rfl rfl rfl <| WL.gn rfl rfl rfl rfl <| WL.gn rfl rfl rfl rfl <| WL.gn rfl rfl rfl rfl <| WL.gn rfl rfl rfl rfl <| WL.gu rfl rfl rfl <| WL.gu rfl rfl rfl <| WL.gu rfl rfl rfl <| WL.gu rfl rfl rfl <| WL.gu rfl rfl rfl <| WL.gn rfl rfl rfl rfl <| WL.p (.pkT rfl rfl rfl) rfl <| WL.nil <| ?_
 exact ⟨leE (lk_b rfl (by unfold partB; first | (simp_all; done) | (simp_all <;> (intros; omega)))), rfl⟩
 refine W.cond rfl (fun h17 => ?_) (fun h17 => ?_)
 refine W.sr <| WL.z rfl rfl ?_
 refine W.ret (W.ret1 rfl rfl ?_)
 first
 | exact ⟨scr_val (by rw [itemB_n hcc hcs aS hrest, if_neg oO, if_pos aS]), hB9⟩
 | exact ⟨scr_val (by rw [itemB_n hcc hcs aS hrest, if_pos oO]), hB9⟩
 | exact ⟨scr_val (by rw [itemB_q hcc hcs aS hrq]), hB9⟩
 | exact ⟨scr_val (by rw [itemB_4 hcc hcs aS, ← hlq]; unfold lettersQ; first | (simp_all; done) | (simp_all <;> omega)), hB9⟩
 | exact ⟨scr_val (by rw [itemB_4 hcc hcs aS, lettersB_no (all_not hml (by simpa using (show (!fitsB _) = true by assumption)))]; rfl), hB9⟩
 | exact ⟨scr_val (by rw [itemB_l (clips_no hil (by simpa using (show (!clipB _) = true by assumption)))]), hB9⟩
 | exact ⟨scr_val (by rw [itemB_c (colorB_no hkl (by simpa using (show (!partB _ _ _) = true by assumption)))]), hB9⟩
 | exact ⟨scr_val (by rw [itemB_c (by unfold colorB; rw [show spaceB x.fColor.fSpace = false from by simpa using (show (!spaceB _) = true by assumption)]; rfl)]), hB9⟩
 | exact ⟨scr_val (by rw [itemB_l (by unfold clipsB; rw [decide_eq_false oO]; rfl)]), hB9⟩
 refine W.skip <| W.reg <| WL.m rfl rfl <| WL.p (.iis (((k + 1 : Nat) : Int)) (.add rfl rfl (i64w oO)) oO) rfl <| WL.z rfl rfl ?_
 exact ⟨k + 1, ⟨rfl, rfl, rfl, trivial⟩, ⟨rfl, by ((try simp only) <;> omega), fun j hj h => by
  rcases Nat.lt_succ_iff_lt_or_eq.1 h with h2 | rfl
  exact hall j hj h2
  simp_all⟩, by ((try simp only) <;> omega)⟩
 have h13' := dF h13
 have hcc : colorB x.fColor = true := colorB_yes hsp fun i hi => hall i hi (by have h4 : i < 4 := hi; omega)
 refine W.exit <| W.seq <| W.sr <| WL.p (.fa underlying87 rfl sizeOf81 dD rfl) rfl <| WL.r (Rd.ld (isAgg81 _) rfl hk8 rfl) rfl <| WL.p (.lenS underlying81 rfl) rfl <| WL.p (.gtr rfl rfl) rfl <| WL.nil <| ?_
 refine W.cond rfl (fun h18 => ?_) (fun h18 => ?_)
 have h18' := dT h18
 refine W.sr <| WL.z rfl rfl ?_
 refine W.ret (W.ret1 rfl rfl ?_)
 first
 | exact ⟨scr_val (by rw [itemB_n hcc hcs aS hrest, if_neg oO, if_pos aS]), hB9⟩
 | exact ⟨scr_val (by rw [itemB_n hcc hcs aS hrest, if_pos oO]), hB9⟩
 | exact ⟨scr_val (by rw [itemB_q hcc hcs aS hrq]), hB9⟩
 | exact ⟨scr_val (by rw [itemB_4 hcc hcs aS, ← hlq]; unfold lettersQ; first | (simp_all; done) | (simp_all <;> omega)), hB9⟩
 | exact ⟨scr_val (by rw [itemB_4 hcc hcs aS, lettersB_no (all_not hml (by simpa using (show (!fitsB _) = true by assumption)))]; rfl), hB9⟩
 | exact ⟨scr_val (by rw [itemB_l (clips_no hil (by simpa using (show (!clipB _) = true by assumption)))]), hB9⟩
 | exact ⟨scr_val (by rw [itemB_c (colorB_no hkl (by simpa using (show (!partB _ _ _) = true by assumption)))]), hB9⟩
 | exact ⟨scr_val (by rw [itemB_c (by unfold colorB; rw [show spaceB x.fColor.fSpace = false from by simpa using (show (!spaceB _) = true by assumption)]; rfl)]), hB9⟩
 | exact ⟨scr_val (by rw [itemB_l (by unfold clipsB; rw [decide_eq_false oO]; rfl)]), hB9⟩
 have h18' := dF h18
 have hl16 : (x.fClips.length : Int) ≤ 16 := by omega
 refine W.skip <| W.seq <| W.sr <| WL.z rfl rfl ?_
 refine W.block ?_
 refine W.loop (α := Nat) (fun t => [(1, .pointer (some ⟨b1, 0, none⟩)), (5, .int .i64 (t : Int))]) (fun t w' => Below w.heap.size w w' ∧ Blk w' b1 (itemV x).toArray 87 ∧ t ≤ x.fClips.length ∧ ∀ j (hj : j < x.fClips.length), j < t → clipB x.fClips[j] = true) (fun t => x.fClips.length - t) (0) ⟨rfl, rfl, trivial⟩ (⟨hB9, hk8, Nat.zero_le _, fun j _ h => absurd h oO⟩) (fun t w1 hR => ?_)
 obtain ⟨i, rfl⟩ : ∃ i, i = t := ⟨t, rfl⟩
 obtain ⟨hT, hk1, hi, hcl⟩ := hR
 have hrc := (hx.below hT).row_fClips
 refine W.seq <| W.sr <| WL.m rfl rfl <| WL.p (.fa underlying87 rfl sizeOf81 dD rfl) rfl <| WL.r (Rd.ld (isAgg81 _) rfl hk1 rfl) rfl <| WL.p (.lenS underlying81 rfl) rfl <| WL.p (.lss rfl rfl) rfl <| WL.nil <| ?_
 refine W.cond rfl (fun h19 => ?_) (fun h19 => ?_)
 have h19' := dT h19
 have hil : i < x.fClips.length := by omega
 have hxi := hx.all_fClips _ (List.getElem_mem hil)
 have hei : x.fClips[i].fPath.isEmpty = decide ((x.fClips[i].fPath.length : Int) = 0) := by cases x.fClips[i].fPath <;> simp <;> omega
 refine W.skip <| W.seq <| W.block ?_
 refine W.cut (α := Unit) (fun t => [(1, .pointer (some ⟨b1, 0, none⟩)), (5, .int .i64 (i : Int)), (80, .bool (!clipB x.fClips[i]))]) (fun t w' => Below w.heap.size w w' ∧ Blk w' b1 (itemV x).toArray 87) ?_ (fun t w1 hR => ?_)
 refine W.reg <| WL.p (.fa underlying87 rfl sizeOf81 dD rfl) rfl <| WL.r (Rd.ld (isAgg81 _) rfl hk1 rfl) rfl <| WL.m rfl rfl <| WL.p (.ixm underlying81 sizeOf89 rfl rfl (hrc.isp oO) (i) (rfl) oO) rfl <| WL.p (.fa underlying89 rfl sizeOf77 dD rfl) rfl <| WL.r (Rd.ldc (isAgg77 _) rfl ((hrc.field (i) oO 0 dD).trans rfl)) rfl <| WL.p (.lenS underlying77 rfl) rfl <| WL.p (.eql rfl rfl) rfl <| WL.m rfl rfl <| WL.gd rfl rfl rfl (fun g20 => ?_) (fun g20 => ?_)
 have g20' := dF g20
 refine WL.p (.fa underlying87 rfl sizeOf81 dD rfl) rfl <| WL.gy rfl rfl rfl g20 <| WL.r (Rd.ld (isAgg81 _) rfl hk1 rfl) rfl <| WL.gy rfl rfl rfl g20 <| WL.m rfl rfl <| WL.gy rfl rfl rfl g20 <| WL.p (.ixm underlying81 sizeOf89 rfl rfl (hrc.isp oO) (i) (rfl) oO) rfl <| WL.gy rfl rfl rfl g20 <| WL.p (.fa underlying89 rfl sizeOf77 dD rfl) rfl <| WL.gy rfl rfl rfl g20 <| WL.r (Rd.ldc (isAgg77 _) rfl ((hrc.field (i) oO 0 dD).trans rfl)) rfl <| WL.gy rfl rfl rfl g20 <| WL.c1 hb127 rfl rfl ((ref_SoundPath _ _ _ _ (hxi.below hT).row_fPath hxi.sl_fPath.len)) (fun w21 hw21 => ?_)
 have hk22 := hk1.below hw21 hk1.lt
 have hB24 := btr hT hw21
 refine WL.gy rfl rfl rfl g20 <| WL.p (.not rfl) rfl <| WL.p (.pkF rfl g20 rfl) rfl <| WL.nil <| ?_
 exact ⟨(), ⟨rfl, rfl, lk_b rfl (by unfold clipB; rw [hei]; simp_all), trivial⟩, hB24, hk22⟩
 have g20' := dT g20
 refine WL.gn rfl rfl rfl g20 <| WL.gn rfl rfl rfl g20 <| WL.gn rfl rfl rfl g20 <| WL.gn rfl rfl rfl g20 <| WL.gn rfl rfl rfl g20 <| WL.gn rfl rfl rfl g20 <| WL.gn rfl rfl rfl g20 <| WL.p (.pkT rfl g20 rfl) rfl <| WL.nil <| ?_
 exact ⟨(), ⟨rfl, rfl, lk_b rfl (by unfold clipB; rw [hei]; simp_all), trivial⟩, hT, hk1⟩
 obtain ⟨hj1, hj2⟩ := hR
 refine W.cond rfl (fun h25 => ?_) (fun h25 => ?_)
 refine W.sr <| WL.z rfl rfl ?_
 refine W.ret (W.ret1 rfl rfl ?_)
 first
 | exact ⟨scr_val (by rw [itemB_n hcc hcs aS hrest, if_neg oO, if_pos aS]), hj1⟩
 | exact ⟨scr_val (by rw [itemB_n hcc hcs aS hrest, if_pos oO]), hj1⟩
 | exact ⟨scr_val (by rw [itemB_q hcc hcs aS hrq]), hj1⟩
 | exact ⟨scr_val (by rw [itemB_4 hcc hcs aS, ← hlq]; unfold lettersQ; first | (simp_all; done) | (simp_all <;> omega)), hj1⟩
 | exact ⟨scr_val (by rw [itemB_4 hcc hcs aS, lettersB_no (all_not hml (by simpa using (show (!fitsB _) = true by assumption)))]; rfl), hj1⟩
 | exact ⟨scr_val (by rw [itemB_l (clips_no hil (by simpa using (show (!clipB _) = true by assumption)))]), hj1⟩
 | exact ⟨scr_val (by rw [itemB_c (colorB_no hkl (by simpa using (show (!partB _ _ _) = true by assumption)))]), hj1⟩
 | exact ⟨scr_val (by rw [itemB_c (by unfold colorB; rw [show spaceB x.fColor.fSpace = false from by simpa using (show (!spaceB _) = true by assumption)]; rfl)]), hj1⟩
 | exact ⟨scr_val (by rw [itemB_l (by unfold clipsB; rw [decide_eq_false oO]; rfl)]), hj1⟩
 refine W.skip <| W.reg <| WL.m rfl rfl <| WL.p (.iis (((i + 1 : Nat) : Int)) (.add rfl rfl (i64w oO)) oO) rfl <| WL.z rfl rfl ?_
 exact ⟨i + 1, ⟨rfl, rfl, trivial⟩, ⟨hj1, hj2, by ((try simp only) <;> omega), fun j hj h => by
  rcases Nat.lt_succ_iff_lt_or_eq.1 h with h2 | rfl
  exact hcl j hj h2
  simp_all⟩, by ((try simp only) <;> omega)⟩
 have h19' := dF h19
 have hcs : clipsB x.fClips = true := clips_all hl16 fun j hj => hcl j hj oO
 refine W.exit <| W.sr <| WL.p (.fa underlying87 rfl sizeOf84 dD rfl) rfl <| WL.r (Rd.ldF (L := penL) underlying84 rfl isz84 hk1 (x.fPen) (rfl) rfl) rfl <| ?_
 refine WL.p (.buildL (ps := _) blt84 rfl rfl rfl pZ) rfl ?_
 refine WL.c1 hb128 rfl rfl ((by have h := ref_SamePen x.fPen pen0 _ (hx.below hT).ok_fPen.row_fDash RowAt.none hx.ok_fPen.sl_fDash.len; rw [pen0_none] at h; exact h)) (fun w26 hw26 => ?_)
 have hk27 := hk1.below hw26 hk1.lt
 have hB29 := btr hT hw26
 refine WL.z rfl rfl ?_
 refine W.seq <| W.sr <| WL.p (.fa underlying87 rfl sizeOf3 dD rfl) rfl <| WL.r (Rd.ld (isAgg3 _) rfl hk27 rfl) rfl <| WL.p (.eql rfl rfl) rfl <| WL.nil <| ?_
 refine W.cond rfl (fun h30 => ?_) (fun h30 => ?_)
 have h30' := dT h30
 refine W.seq <| W.sr <| WL.z rfl rfl ?_
 refine W.block ?_
 refine W.loop (α := Nat) (fun t => [(1, .pointer (some ⟨b1, 0, none⟩)), (6, .bool (noneB x.fPen)), (7, .int .i64 (t : Int))]) (fun t w' => w26 = w' ∧ t ≤ 6 ∧ ∀ i (hi : i < (mats x).length), i < t → fitsB (mats x)[i] = true) (fun t => 6 - t) (0) ⟨rfl, rfl, rfl, trivial⟩ (⟨rfl, by decide, fun i _ h => absurd h oO⟩) (fun t w1 hR => ?_)
 obtain ⟨m, rfl⟩ : ∃ k, k = t := ⟨t, rfl⟩
 obtain ⟨rfl, hm, hma⟩ := hR
 refine W.seq <| W.sr <| WL.m rfl rfl <| WL.p (.lss rfl rfl) rfl <| WL.nil <| ?_
 refine W.cond rfl (fun h31 => ?_) (fun h31 => ?_)
 have h31' := dT h31
 have hml : m < (mats x).length := by simp [mats]; omega
 refine W.skip <| W.seq <| W.block <| W.sr <| WL.m rfl rfl <| WL.p (.fa underlying87 rfl sizeOf85 dD rfl) rfl <| WL.p (.ixr1 underlying85 sizeOf3 rfl rfl (m) (rfl) oO) rfl <| WL.r (Rd.ldc (isAgg3 _) rfl ((mats_row hk27).cells (m) oO)) rfl <| WL.c1 hb62 rfl rfl ((ref_Fits _ _)) (fun w32 hw32 => ?_)
 obtain rfl := hw32
 refine WL.p (.not rfl) rfl <| WL.nil <| ?_
 refine W.cond rfl (fun h33 => ?_) (fun h33 => ?_)
 have h33' := (nT h33)
 refine W.sr <| WL.z rfl rfl ?_
 refine W.ret (W.ret1 rfl rfl ?_)
 first
 | exact ⟨scr_val (by rw [itemB_n hcc hcs aS hrest, if_neg oO, if_pos aS]), hB29⟩
 | exact ⟨scr_val (by rw [itemB_n hcc hcs aS hrest, if_pos oO]), hB29⟩
 | exact ⟨scr_val (by rw [itemB_q hcc hcs aS hrq]), hB29⟩
 | exact ⟨scr_val (by rw [itemB_4 hcc hcs aS, ← hlq]; unfold lettersQ; first | (simp_all; done) | (simp_all <;> omega)), hB29⟩
 | exact ⟨scr_val (by rw [itemB_4 hcc hcs aS, lettersB_no (all_not hml (by simpa using (show (!fitsB _) = true by assumption)))]; rfl), hB29⟩
 | exact ⟨scr_val (by rw [itemB_l (clips_no hil (by simpa using (show (!clipB _) = true by assumption)))]), hB29⟩
 | exact ⟨scr_val (by rw [itemB_c (colorB_no hkl (by simpa using (show (!partB _ _ _) = true by assumption)))]), hB29⟩
 | exact ⟨scr_val (by rw [itemB_c (by unfold colorB; rw [show spaceB x.fColor.fSpace = false from by simpa using (show (!spaceB _) = true by assumption)]; rfl)]), hB29⟩
 | exact ⟨scr_val (by rw [itemB_l (by unfold clipsB; rw [decide_eq_false oO]; rfl)]), hB29⟩
 have h33' := (nF h33)
 refine W.skip <| W.reg <| WL.m rfl rfl <| WL.p (.iis (((m + 1 : Nat) : Int)) (.add rfl rfl (i64w oO)) oO) rfl <| WL.z rfl rfl ?_
 exact ⟨m + 1, ⟨rfl, rfl, rfl, trivial⟩, ⟨rfl, by ((try simp only) <;> omega), fun j hj h => by
  rcases Nat.lt_succ_iff_lt_or_eq.1 h with h2 | rfl
  exact hma j hj h2
  simp_all⟩, by ((try simp only) <;> omega)⟩
 have h31' := dF h31
 have hmt : (mats x).all fitsB = true := all_of fun i hi => hma i hi (by have h6 : i < 6 := hi; omega)
 have hlq := lettersQ_eq hmt
 refine W.exit <| W.sr <| WL.p (.fa underlying87 rfl sizeOf3 dD rfl) rfl <| WL.r (Rd.ld (isAgg3 _) rfl hk27 rfl) rfl <| WL.p (.geq rfl rfl) rfl <| WL.m rfl rfl <| WL.gd rfl rfl rfl (fun g34 => ?_) (fun g34 => ?_)
 have g34' := dT g34
 refine WL.p (.fa underlying87 rfl sizeOf3 dD rfl) rfl <| WL.gy rfl rfl rfl g34 <| WL.r (Rd.ld (isAgg3 _) rfl hk27 rfl) rfl <| WL.gy rfl rfl rfl g34 <| WL.p (.leq rfl rfl) rfl <| WL.p (.pkT rfl g34 rfl) rfl <| WL.m rfl rfl <| WL.gd rfl rfl rfl (fun g35 => ?_) (fun g35 => ?_)
 have g35' := dT g35
 refine WL.p (.fa underlying87 rfl sizeOf22 dD rfl) rfl <| WL.gy rfl rfl rfl g35 <| WL.r (Rd.ld (isAgg22 _) rfl hk27 rfl) rfl <| WL.gy rfl rfl rfl g35 <| WL.p (.lenS underlying22 rfl) rfl <| WL.gy rfl rfl rfl g35 <| WL.p (.geq rfl rfl) rfl <| WL.p (.pkT rfl g35 rfl) rfl <| WL.m rfl rfl <| WL.gd rfl rfl rfl (fun g36 => ?_) (fun g36 => ?_)
 have g36' := dT g36
 refine WL.p (.fa underlying87 rfl sizeOf22 dD rfl) rfl <| WL.gy rfl rfl rfl g36 <| WL.r (Rd.ld (isAgg22 _) rfl hk27 rfl) rfl <| WL.gy rfl rfl rfl g36 <| WL.p (.lenS underlying22 rfl) rfl <| WL.gy rfl rfl rfl g36 <| WL.p (.leq rfl rfl) rfl <| WL.p (.pkT rfl g36 rfl) rfl <| WL.m rfl rfl <| WL.gd rfl rfl rfl (fun g37 => ?_) (fun g37 => ?_)
 have g37' := dT g37
 refine WL.p (.fa underlying87 rfl sizeOf77 dD rfl) rfl <| WL.gy rfl rfl rfl g37 <| WL.r (Rd.ld (isAgg77 _) rfl hk27 rfl) rfl <| WL.gy rfl rfl rfl g37 <| WL.p (.lenS underlying77 rfl) rfl <| WL.gy rfl rfl rfl g37 <| WL.p (.eql rfl rfl) rfl <| WL.p (.pkT rfl g37 rfl) rfl <| WL.m rfl rfl <| WL.gd rfl rfl rfl (fun g38 => ?_) (fun g38 => ?_)
 have g38' := dT g38
 refine WL.m rfl rfl <| WL.p (.pkT rfl g38 rfl) rfl <| WL.z rfl rfl ?_
 refine W.ret (W.ret1 rfl rfl ?_)
 first
 | exact ⟨scr_val (by rw [itemB_n hcc hcs aS hrest, if_neg oO, if_pos aS]), hB29⟩
 | exact ⟨scr_val (by rw [itemB_n hcc hcs aS hrest, if_pos oO]), hB29⟩
 | exact ⟨scr_val (by rw [itemB_q hcc hcs aS hrq]), hB29⟩
 | exact ⟨scr_val (by rw [itemB_4 hcc hcs aS, ← hlq]; unfold lettersQ; first | (simp_all; done) | (simp_all <;> omega)), hB29⟩
 | exact ⟨scr_val (by rw [itemB_4 hcc hcs aS, lettersB_no (all_not hml (by simpa using (show (!fitsB _) = true by assumption)))]; rfl), hB29⟩
 | exact ⟨scr_val (by rw [itemB_l (clips_no hil (by simpa using (show (!clipB _) = true by assumption)))]), hB29⟩
 | exact ⟨scr_val (by rw [itemB_c (colorB_no hkl (by simpa using (show (!partB _ _ _) = true by assumption)))]), hB29⟩
 | exact ⟨scr_val (by rw [itemB_c (by unfold colorB; rw [show spaceB x.fColor.fSpace = false from by simpa using (show (!spaceB _) = true by assumption)]; rfl)]), hB29⟩
 | exact ⟨scr_val (by rw [itemB_l (by unfold clipsB; rw [decide_eq_false oO]; rfl)]), hB29⟩
 have g38' := dF g38
 refine WL.p (.pkF rfl g38 rfl) rfl <| WL.z rfl rfl ?_
 refine W.ret (W.ret1 rfl rfl ?_)
 first
 | exact ⟨scr_val (by rw [itemB_n hcc hcs aS hrest, if_neg oO, if_pos aS]), hB29⟩
 | exact ⟨scr_val (by rw [itemB_n hcc hcs aS hrest, if_pos oO]), hB29⟩
 | exact ⟨scr_val (by rw [itemB_q hcc hcs aS hrq]), hB29⟩
 | exact ⟨scr_val (by rw [itemB_4 hcc hcs aS, ← hlq]; unfold lettersQ; first | (simp_all; done) | (simp_all <;> omega)), hB29⟩
 | exact ⟨scr_val (by rw [itemB_4 hcc hcs aS, lettersB_no (all_not hml (by simpa using (show (!fitsB _) = true by assumption)))]; rfl), hB29⟩
 | exact ⟨scr_val (by rw [itemB_l (clips_no hil (by simpa using (show (!clipB _) = true by assumption)))]), hB29⟩
 | exact ⟨scr_val (by rw [itemB_c (colorB_no hkl (by simpa using (show (!partB _ _ _) = true by assumption)))]), hB29⟩
 | exact ⟨scr_val (by rw [itemB_c (by unfold colorB; rw [show spaceB x.fColor.fSpace = false from by simpa using (show (!spaceB _) = true by assumption)]; rfl)]), hB29⟩
 | exact ⟨scr_val (by rw [itemB_l (by unfold clipsB; rw [decide_eq_false oO]; rfl)]), hB29⟩
 have g37' := dF g37
 refine WL.gn rfl rfl rfl g37 <| WL.gn rfl rfl rfl g37 <| WL.gn rfl rfl rfl g37 <| WL.p (.pkF rfl g37 rfl) rfl <| WL.m rfl rfl <| WL.gn rfl rfl rfl rfl <| WL.p (.pkF rfl rfl rfl) rfl <| WL.z rfl rfl ?_
 refine W.ret (W.ret1 rfl rfl ?_)
 first
 | exact ⟨scr_val (by rw [itemB_n hcc hcs aS hrest, if_neg oO, if_pos aS]), hB29⟩
 | exact ⟨scr_val (by rw [itemB_n hcc hcs aS hrest, if_pos oO]), hB29⟩
 | exact ⟨scr_val (by rw [itemB_q hcc hcs aS hrq]), hB29⟩
 | exact ⟨scr_val (by rw [itemB_4 hcc hcs aS, ← hlq]; unfold lettersQ; first | (simp_all; done) | (simp_all <;> omega)), hB29⟩
 | exact ⟨scr_val (by rw [itemB_4 hcc hcs aS, lettersB_no (all_not hml (by simpa using (show (!fitsB _) = true by assumption)))]; rfl), hB29⟩
 | exact ⟨scr_val (by rw [itemB_l (clips_no hil (by simpa using (show (!clipB _) = true by assumption)))]), hB29⟩
 | exact ⟨scr_val (by rw [itemB_c (colorB_no hkl (by simpa using (show (!partB _ _ _) = true by assumption)))]), hB29⟩
 | exact ⟨scr_val (by rw [itemB_c (by unfold colorB; rw [show spaceB x.fColor.fSpace = false from by simpa using (show (!spaceB _) = true by assumption)]; rfl)]), hB29⟩
 | exact ⟨scr_val (by rw [itemB_l (by unfold clipsB; rw [decide_eq_false oO]; rfl)]), hB29⟩
 have g36' := dF g36
 refine WL.gn rfl rfl rfl g36 <| WL.gn rfl rfl rfl g36 <| WL.gn rfl rfl rfl g36 <| WL.p (.pkF rfl g36 rfl) rfl <| WL.m rfl rfl <| WL.gn rfl rfl rfl rfl <| WL.gn rfl rfl rfl rfl <| WL.gn rfl rfl rfl rfl <| WL.gn rfl rfl rfl rfl <| WL.p (.pkF rfl rfl rfl) rfl <| WL.m rfl rfl <| WL.gn rfl rfl rfl rfl <| WL.p (.pkF rfl rfl rfl) rfl <| WL.z rfl rfl ?_
 refine W.ret (W.ret1 rfl rfl ?_)
 first
 | exact ⟨scr_val (by rw [itemB_n hcc hcs aS hrest, if_neg oO, if_pos aS]), hB29⟩
 | exact ⟨scr_val (by rw [itemB_n hcc hcs aS hrest, if_pos oO]), hB29⟩
 | exact ⟨scr_val (by rw [itemB_q hcc hcs aS hrq]), hB29⟩
 | exact ⟨scr_val (by rw [itemB_4 hcc hcs aS, ← hlq]; unfold lettersQ; first | (simp_all; done) | (simp_all <;> omega)), hB29⟩
 | exact ⟨scr_val (by rw [itemB_4 hcc hcs aS, lettersB_no (all_not hml (by simpa using (show (!fitsB _) = true by assumption)))]; rfl), hB29⟩
 | exact ⟨scr_val (by rw [itemB_l (clips_no hil (by simpa using (show (!clipB _) = true by assumption)))]), hB29⟩
 | exact ⟨scr_val (by rw [itemB_c (colorB_no hkl (by simpa using (show (!partB _ _ _) = true by assumption)))]), hB29⟩
 | exact ⟨scr_val (by rw [itemB_c (by unfold colorB; rw [show spaceB x.fColor.fSpace = false from by simpa using (show (!spaceB _) = true by assumption)]; rfl)]), hB29⟩
 | exact ⟨scr_val (by rw [itemB_l (by unfold clipsB; rw [decide_eq_false oO]; rfl)]), hB29⟩
 have g35' := dF g35
 refine WL.gn rfl rfl rfl g35 <| WL.gn rfl rfl rfl g35 <| WL.gn rfl rfl rfl g35 <| WL.p (.pkF rfl g35 rfl) rfl <| WL.m rfl rfl <| WL.gn rfl rfl rfl rfl <| WL.gn rfl rfl rfl rfl <| WL.gn rfl rfl rfl rfl <| WL.gn rfl rfl rfl rfl <| WL.p (.pkF rfl rfl rfl) rfl <| WL.m rfl rfl <| WL.gn rfl rfl rfl rfl <| WL.gn rfl rfl rfl rfl <| WL.gn rfl rfl rfl rfl <| WL.gn rfl rfl rfl rfl <| WL.p (.pkF rfl rfl rfl) rfl <| WL.m rfl rfl <| WL.gn rfl rfl rfl rfl <| WL.p (.pkF rfl rfl rfl) rfl <| WL.z rfl rfl ?_
 refine W.ret (W.ret1 rfl rfl ?_)
 first
 | exact ⟨scr_val (by rw [itemB_n hcc hcs aS hrest, if_neg oO, if_pos aS]), hB29⟩
 | exact ⟨scr_val (by rw [itemB_n hcc hcs aS hrest, if_pos oO]), hB29⟩
 | exact ⟨scr_val (by rw [itemB_q hcc hcs aS hrq]), hB29⟩
 | exact ⟨scr_val (by rw [itemB_4 hcc hcs aS, ← hlq]; unfold lettersQ; first | (simp_all; done) | (simp_all <;> omega)), hB29⟩
 | exact ⟨scr_val (by rw [itemB_4 hcc hcs aS, lettersB_no (all_not hml (by simpa using (show (!fitsB _) = true by assumption)))]; rfl), hB29⟩
 | exact ⟨scr_val (by rw [itemB_l (clips_no hil (by simpa using (show (!clipB _) = true by assumption)))]), hB29⟩
 | exact ⟨scr_val (by rw [itemB_c (colorB_no hkl (by simpa using (show (!partB _ _ _) = true by assumption)))]), hB29⟩
 | exact ⟨scr_val (by rw [itemB_c (by unfold colorB; rw [show spaceB x.fColor.fSpace = false from by simpa using (show (!spaceB _) = true by assumption)]; rfl)]), hB29⟩
 | exact ⟨scr_val (by rw [itemB_l (by unfold clipsB; rw [decide_eq_false oO]; rfl)]), hB29⟩
 have g34' := dF g34
 refine WL.gn rfl rfl rfl g34 <| WL.gn rfl rfl rfl g34 <| WL.p (.pkF rfl g34 rfl) rfl <| WL.m rfl rfl <| WL.gn rfl rfl rfl rfl <| WL.gn rfl rfl rfl rfl <| WL.gn rfl rfl rfl rfl <| WL.gn rfl rfl rfl rfl <| WL.p (.pkF rfl rfl rfl) rfl <| WL.m rfl rfl <| WL.gn rfl rfl rfl rfl <| WL.gn rfl rfl rfl rfl <| WL.gn rfl rfl rfl rfl <| WL.gn rfl rfl rfl rfl <| WL.p (.pkF rfl rfl rfl) rfl <| WL.m rfl rfl <| WL.gn rfl rfl rfl rfl <| WL.gn rfl rfl rfl rfl <| WL.gn rfl rfl rfl rfl <| WL.gn rfl rfl rfl rfl <| WL.p (.pkF rfl rfl rfl) rfl <| WL.m rfl rfl <| WL.gn rfl rfl rfl rfl <| WL.p (.pkF rfl rfl rfl) rfl <| WL.z rfl rfl ?_
 refine W.ret (W.ret1 rfl rfl ?_)
 first
 | exact ⟨scr_val (by rw [itemB_n hcc hcs aS hrest, if_neg oO, if_pos aS]), hB29⟩
 | exact ⟨scr_val (by rw [itemB_n hcc hcs aS hrest, if_pos oO]), hB29⟩
 | exact ⟨scr_val (by rw [itemB_q hcc hcs aS hrq]), hB29⟩
 | exact ⟨scr_val (by rw [itemB_4 hcc hcs aS, ← hlq]; unfold lettersQ; first | (simp_all; done) | (simp_all <;> omega)), hB29⟩
 | exact ⟨scr_val (by rw [itemB_4 hcc hcs aS, lettersB_no (all_not hml (by simpa using (show (!fitsB _) = true by assumption)))]; rfl), hB29⟩
 | exact ⟨scr_val (by rw [itemB_l (clips_no hil (by simpa using (show (!clipB _) = true by assumption)))]), hB29⟩
 | exact ⟨scr_val (by rw [itemB_c (colorB_no hkl (by simpa using (show (!partB _ _ _) = true by assumption)))]), hB29⟩
 | exact ⟨scr_val (by rw [itemB_c (by unfold colorB; rw [show spaceB x.fColor.fSpace = false from by simpa using (show (!spaceB _) = true by assumption)]; rfl)]), hB29⟩
 | exact ⟨scr_val (by rw [itemB_l (by unfold clipsB; rw [decide_eq_false oO]; rfl)]), hB29⟩
 have h30' := dF h30
 refine W.skip <| W.seq ?_
 refine W.cut (α := Unit) (fun t => [(1, .pointer (some ⟨b1, 0, none⟩)), (6, .bool (noneB x.fPen)), (163, .bool (restR x))]) (fun t w' => Below w.heap.size w w' ∧ Blk w' b1 (itemV x).toArray 87) ?_ (fun t w1 hR => ?_)
 refine W.reg <| WL.p (.fa underlying87 rfl sizeOf3 dD rfl) rfl <| WL.r (Rd.ld (isAgg3 _) rfl hk27 rfl) rfl <| WL.p (.lss rfl rfl) rfl <| WL.m rfl rfl <| WL.gd rfl rfl rfl (fun g39 => ?_) (fun g39 => ?_)
 have g39' := dF g39
 refine WL.p (.fa underlying87 rfl sizeOf3 dD rfl) rfl <| WL.gy rfl rfl rfl g39 <| WL.r (Rd.ld (isAgg3 _) rfl hk27 rfl) rfl <| WL.gy rfl rfl rfl g39 <| WL.p (.gtr rfl rfl) rfl <| WL.p (.pkF rfl g39 rfl) rfl <| WL.m rfl rfl <| WL.gd rfl rfl rfl (fun g40 => ?_) (fun g40 => ?_)
 have g40' := dF g40
 refine WL.p (.fa underlying87 rfl sizeOf3 dD rfl) rfl <| WL.gy rfl rfl rfl g40 <| WL.r (Rd.ld (isAgg3 _) rfl hk27 rfl) rfl <| WL.gy rfl rfl rfl g40 <| WL.p (.neq rfl rfl) rfl <| WL.p (.pkF rfl g40 rfl) rfl <| WL.m rfl rfl <| WL.gd rfl rfl rfl (fun g41 => ?_) (fun g41 => ?_)
 have g41' := ndF g41
 refine WL.p (.fa underlying87 rfl sizeOf85 dD rfl) rfl <| WL.gy rfl rfl rfl g41 <| WL.r (Rd.ldF (L := matL) underlying85 rfl isz85 hk27 (x) (rfl) rfl) rfl <| WL.gy rfl rfl rfl g41 <| ?_
 refine WL.p (.build (ps := []) (vs := []) rfl blz85) rfl ?_
 refine WL.gy rfl rfl rfl g41 <| WL.p (.neAgg rfl rfl eg85 (neA85 _ _ _ _ _ _ _ _ _ _ _ _)) rfl <| WL.p (.pkF rfl g41 rfl) rfl <| WL.m rfl rfl <| WL.gd rfl rfl rfl (fun g42 => ?_) (fun g42 => ?_)
 refine WL.p (.fa underlying87 rfl sizeOf22 dD rfl) rfl <| WL.gy rfl rfl rfl g42 <| WL.r (Rd.ld (isAgg22 _) rfl hk27 rfl) rfl <| WL.gy rfl rfl rfl g42 <| WL.p (.lenS underlying22 rfl) rfl <| WL.gy rfl rfl rfl g42 <| WL.p (.gtr rfl rfl) rfl <| WL.p (.pkF rfl g42 rfl) rfl <| WL.m rfl rfl <| WL.gd rfl rfl rfl (fun g43 => ?_) (fun g43 => ?_)
 have g43' := dF g43
 refine WL.p (.fa underlying87 rfl sizeOf77 dD rfl) rfl <| WL.gy rfl rfl rfl g43 <| WL.r (Rd.ld (isAgg77 _) rfl hk27 rfl) rfl <| WL.gy rfl rfl rfl g43 <| WL.p (.lenS underlying77 rfl) rfl <| WL.gy rfl rfl rfl g43 <| WL.p (.eql rfl rfl) rfl <| WL.p (.pkF rfl g43 rfl) rfl <| WL.m rfl rfl <| WL.gd rfl rfl rfl (fun g44 => ?_) (fun g44 => ?_)
 have g44' := dF g44
 refine WL.p (.fa underlying87 rfl sizeOf77 dD rfl) rfl <| WL.gy rfl rfl rfl g44 <| WL.r (Rd.ld (isAgg77 _) rfl hk27 rfl) rfl <| WL.gy rfl rfl rfl g44 <| WL.c1 hb127 rfl rfl ((ref_SoundPath _ _ _ _ (hx.below hB29).row_fPath hx.sl_fPath.len)) (fun w45 hw45 => ?_)
 have hk46 := hk27.below hw45 hk27.lt
 have hB48 := btr hB29 hw45
 refine WL.gy rfl rfl rfl g44 <| WL.p (.not rfl) rfl <| WL.p (.pkF rfl g44 rfl) rfl <| WL.nil <| ?_
 exact ⟨(), ⟨rfl, rfl, lk_b rfl (by unfold restR restQ mat0; generalize pathB x.fPath = A at *; first | (simp_all; done) | (rw [decide_eq_true (show x.fKind < 1 by omega)]; simp_all; done) | (rw [decide_eq_false (show ¬ x.fKind < 1 by omega), decide_eq_true (show x.fKind > 3 by omega)]; simp_all; done) | (rw [decide_eq_false (show ¬ x.fKind < 1 by omega), decide_eq_false (show ¬ x.fKind > 3 by omega)]; first | (simp_all; done) | (rw [decide_eq_true (show (x.fBytes.length : Int) > 0 by omega)]; simp_all; done) | (rw [decide_eq_false (show ¬ (x.fBytes.length : Int) > 0 by omega)]; simp_all; done))), trivial⟩, hB48, hk46⟩
 have g44' := dT g44
 refine WL.gn rfl rfl rfl g44 <| WL.gn rfl rfl rfl g44 <| WL.gn rfl rfl rfl g44 <| WL.p (.pkT rfl g44 rfl) rfl <| WL.nil <| ?_
 exact ⟨(), ⟨rfl, rfl, lk_b rfl (by unfold restR restQ mat0; generalize pathB x.fPath = A at *; first | (simp_all; done) | (rw [decide_eq_true (show x.fKind < 1 by omega)]; simp_all; done) | (rw [decide_eq_false (show ¬ x.fKind < 1 by omega), decide_eq_true (show x.fKind > 3 by omega)]; simp_all; done) | (rw [decide_eq_false (show ¬ x.fKind < 1 by omega), decide_eq_false (show ¬ x.fKind > 3 by omega)]; first | (simp_all; done) | (rw [decide_eq_true (show (x.fBytes.length : Int) > 0 by omega)]; simp_all; done) | (rw [decide_eq_false (show ¬ (x.fBytes.length : Int) > 0 by omega)]; simp_all; done))), trivial⟩, hB29, hk27⟩
 have g43' := dT g43
 refine WL.gn rfl rfl rfl g43 <| WL.gn rfl rfl rfl g43 <| WL.gn rfl rfl rfl g43 <| WL.p (.pkT rfl g43 rfl) rfl <| WL.m rfl rfl <| WL.gn rfl rfl rfl rfl <| WL.gn rfl rfl rfl rfl <| WL.gn rfl rfl rfl rfl <| WL.gn rfl rfl rfl rfl <| WL.p (.pkT rfl rfl rfl) rfl <| WL.nil <| ?_
 exact ⟨(), ⟨rfl, rfl, lk_b rfl (by unfold restR restQ mat0; generalize pathB x.fPath = A at *; first | (simp_all; done) | (rw [decide_eq_true (show x.fKind < 1 by omega)]; simp_all; done) | (rw [decide_eq_false (show ¬ x.fKind < 1 by omega), decide_eq_true (show x.fKind > 3 by omega)]; simp_all; done) | (rw [decide_eq_false (show ¬ x.fKind < 1 by omega), decide_eq_false (show ¬ x.fKind > 3 by omega)]; first | (simp_all; done) | (rw [decide_eq_true (show (x.fBytes.length : Int) > 0 by omega)]; simp_all; done) | (rw [decide_eq_false (show ¬ (x.fBytes.length : Int) > 0 by omega)]; simp_all; done))), trivial⟩, hB29, hk27⟩
 refine WL.gn rfl rfl rfl g42 <| WL.gn rfl rfl rfl g42 <| WL.gn rfl rfl rfl g42 <| WL.p (.pkT rfl g42 rfl) rfl <| WL.m rfl rfl <| WL.gn rfl rfl rfl rfl <| WL.gn rfl rfl rfl rfl <| WL.gn rfl rfl rfl rfl <| WL.gn rfl rfl rfl rfl <| WL.p (.pkT rfl rfl rfl) rfl <| WL.m rfl rfl <| WL.gn rfl rfl rfl rfl <| WL.gn rfl rfl rfl rfl <| WL.gn rfl rfl rfl rfl <| WL.gn rfl rfl rfl rfl <| WL.p (.pkT rfl rfl rfl) rfl <| WL.nil <| ?_
 exact ⟨(), ⟨rfl, rfl, lk_b rfl (by unfold restR restQ mat0; generalize pathB x.fPath = A at *; first | (simp_all; done) | (rw [decide_eq_true (show x.fKind < 1 by omega)]; simp_all; done) | (rw [decide_eq_false (show ¬ x.fKind < 1 by omega), decide_eq_true (show x.fKind > 3 by omega)]; simp_all; done) | (rw [decide_eq_false (show ¬ x.fKind < 1 by omega), decide_eq_false (show ¬ x.fKind > 3 by omega)]; first | (simp_all; done) | (rw [decide_eq_true (show (x.fBytes.length : Int) > 0 by omega)]; simp_all; done) | (rw [decide_eq_false (show ¬ (x.fBytes.length : Int) > 0 by omega)]; simp_all; done))), trivial⟩, hB29, hk27⟩
 have g41' := ndT g41
 refine WL.gn rfl rfl rfl g41 <| WL.gn rfl rfl rfl g41 <| WL.gn rfl rfl rfl g41 <| WL.p (.pkT rfl g41 rfl) rfl <| WL.m rfl rfl <| WL.gn rfl rfl rfl rfl <| WL.gn rfl rfl rfl rfl <| WL.gn rfl rfl rfl rfl <| WL.gn rfl rfl rfl rfl <| WL.p (.pkT rfl rfl rfl) rfl <| WL.m rfl rfl <| WL.gn rfl rfl rfl rfl <| WL.gn rfl rfl rfl rfl <| WL.gn rfl rfl rfl rfl <| WL.gn rfl rfl rfl rfl <| WL.p (.pkT rfl rfl rfl) rfl <| WL.m rfl rfl <| WL.gn rfl rfl rfl rfl <| WL.gn rfl rfl rfl rfl <| WL.gn rfl rfl rfl rfl <| WL.gn rfl rfl rfl rfl <| WL.p (.pkT rfl rfl rfl) rfl <| WL.nil <| ?_
 exact ⟨(), ⟨rfl, rfl, lk_b rfl (by unfold restR restQ mat0; generalize pathB x.fPath = A at *; first | (simp_all; done) | (rw [decide_eq_true (show x.fKind < 1 by omega)]; simp_all; done) | (rw [decide_eq_false (show ¬ x.fKind < 1 by omega), decide_eq_true (show x.fKind > 3 by omega)]; simp_all; done) | (rw [decide_eq_false (show ¬ x.fKind < 1 by omega), decide_eq_false (show ¬ x.fKind > 3 by omega)]; first | (simp_all; done) | (rw [decide_eq_true (show (x.fBytes.length : Int) > 0 by omega)]; simp_all; done) | (rw [decide_eq_false (show ¬ (x.fBytes.length : Int) > 0 by omega)]; simp_all; done))), trivial⟩, hB29, hk27⟩
 have g40' := dT g40
 refine WL.gn rfl rfl rfl g40 <| WL.gn rfl rfl rfl g40 <| WL.p (.pkT rfl g40 rfl) rfl <| WL.m rfl rfl <| WL.gn rfl rfl rfl rfl <| WL.gn rfl rfl rfl rfl <| WL.gn rfl rfl rfl rfl <| WL.gn rfl rfl rfl rfl <| WL.p (.pkT rfl rfl rfl) rfl <| WL.m rfl rfl <| WL.gn rfl rfl rfl rfl <| WL.gn rfl rfl rfl rfl <| WL.gn rfl rfl rfl rfl <| WL.gn rfl rfl rfl rfl <| WL.p (.pkT rfl rfl rfl) rfl <| WL.m rfl rfl <| WL.gn rfl rfl rfl rfl <| WL.gn rfl rfl rfl rfl <| WL.gn rfl rfl rfl rfl <| WL.gn rfl rfl rfl rfl <| WL.p (.pkT rfl rfl rfl) rfl <| WL.m rfl rfl <| WL.gn rfl rfl rfl rfl <| WL.gn rfl rfl rfl rfl <| WL.gn rfl rfl rfl rfl <| WL.gn rfl rfl rfl rfl <| WL.p (.pkT rfl rfl rfl) rfl <| WL.nil <| ?_
 exact ⟨(), ⟨rfl, rfl, lk_b rfl (by unfold restR restQ mat0; generalize pathB x.fPath = A at *; first | (simp_all; done) | (rw [decide_eq_true (show x.fKind < 1 by omega)]; simp_all; done) | (rw [decide_eq_false (show ¬ x.fKind < 1 by omega), decide_eq_true (show x.fKind > 3 by omega)]; simp_all; done) | (rw [decide_eq_false (show ¬ x.fKind < 1 by omega), decide_eq_false (show ¬ x.fKind > 3 by omega)]; first | (simp_all; done) | (rw [decide_eq_true (show (x.fBytes.length : Int) > 0 by omega)]; simp_all; done) | (rw [decide_eq_false (show ¬ (x.fBytes.length : Int) > 0 by omega)]; simp_all; done))), trivial⟩, hB29, hk27⟩
 have g39' := dT g39
 refine WL.gn rfl rfl rfl g39 <| WL.gn rfl rfl rfl g39 <| WL.p (.pkT rfl g39 rfl) rfl <| WL.m rfl rfl <| WL.gn rfl rfl rfl rfl <| WL.gn rfl rfl rfl rfl <| WL.gn rfl rfl rfl rfl <| WL.p (.pkT rfl rfl rfl) rfl <| WL.m rfl rfl <| WL.gn rfl rfl rfl rfl <| WL.gn rfl rfl rfl rfl <| WL.gn rfl rfl rfl rfl <| WL.gn rfl rfl rfl rfl <| WL.p (.pkT rfl rfl rfl) rfl <| WL.m rfl rfl <| WL.gn rfl rfl rfl rfl <| WL.gn rfl rfl rfl rfl <| WL.gn rfl rfl rfl rfl <| WL.gn rfl rfl rfl rfl <| WL.p (.pkT rfl rfl rfl) rfl <| WL.m rfl rfl <| WL.gn rfl rfl rfl rfl <| WL.gn rfl rfl rfl rfl <| WL.gn rfl rfl rfl rfl <| WL.gn rfl rfl rfl rfl <| WL.p (.pkT rfl rfl rfl) rfl <| WL.m rfl rfl <| WL.gn rfl rfl rfl rfl <| WL.gn rfl rfl rfl rfl <| WL.gn rfl rfl rfl rfl <| WL.gn rfl rfl rfl rfl <| WL.p (.pkT rfl rfl rfl) rfl <| WL.nil <| ?_
 exact ⟨(), ⟨rfl, rfl, lk_b rfl (by unfold restR restQ mat0; generalize pathB x.fPath = A at *; first | (simp_all; done) | (rw [decide_eq_true (show x.fKind < 1 by omega)]; simp_all; done) | (rw [decide_eq_false (show ¬ x.fKind < 1 by omega), decide_eq_true (show x.fKind > 3 by omega)]; simp_all; done) | (rw [decide_eq_false (show ¬ x.fKind < 1 by omega), decide_eq_false (show ¬ x.fKind > 3 by omega)]; first | (simp_all; done) | (rw [decide_eq_true (show (x.fBytes.length : Int) > 0 by omega)]; simp_all; done) | (rw [decide_eq_false (show ¬ (x.fBytes.length : Int) > 0 by omega)]; simp_all; done))), trivial⟩, hB29, hk27⟩
 obtain ⟨hk1, hk2⟩ := hR
 refine W.cond rfl (fun h49 => ?_) (fun h49 => ?_)
 have hrq : restR x = true := by assumption
 refine W.sr <| WL.z rfl rfl ?_
 refine W.ret (W.ret1 rfl rfl ?_)
 first
 | exact ⟨scr_val (by rw [itemB_n hcc hcs aS hrest, if_neg oO, if_pos aS]), hk1⟩
 | exact ⟨scr_val (by rw [itemB_n hcc hcs aS hrest, if_pos oO]), hk1⟩
 | exact ⟨scr_val (by rw [itemB_q hcc hcs aS hrq]), hk1⟩
 | exact ⟨scr_val (by rw [itemB_4 hcc hcs aS, ← hlq]; unfold lettersQ; first | (simp_all; done) | (simp_all <;> omega)), hk1⟩
 | exact ⟨scr_val (by rw [itemB_4 hcc hcs aS, lettersB_no (all_not hml (by simpa using (show (!fitsB _) = true by assumption)))]; rfl), hk1⟩
 | exact ⟨scr_val (by rw [itemB_l (clips_no hil (by simpa using (show (!clipB _) = true by assumption)))]), hk1⟩
 | exact ⟨scr_val (by rw [itemB_c (colorB_no hkl (by simpa using (show (!partB _ _ _) = true by assumption)))]), hk1⟩
 | exact ⟨scr_val (by rw [itemB_c (by unfold colorB; rw [show spaceB x.fColor.fSpace = false from by simpa using (show (!spaceB _) = true by assumption)]; rfl)]), hk1⟩
 | exact ⟨scr_val (by rw [itemB_l (by unfold clipsB; rw [decide_eq_false oO]; rfl)]), hk1⟩
 have hrq : restR x = false := by assumption
 simp only [restR, Bool.or_eq_false_iff, decide_eq_false_iff_not] at hrq
 have hrest := restB_yes hrq.2
 refine W.skip <| W.seq <| W.sr <| WL.p (.fa underlying87 rfl sizeOf3 dD rfl) rfl <| WL.r (Rd.ld (isAgg3 _) rfl hk2 rfl) rfl <| WL.p (.eql rfl rfl) rfl <| WL.nil <| ?_
 refine W.cond rfl (fun h50 => ?_) (fun h50 => ?_)
 have h50' := dT h50
 refine W.sr <| WL.p (.fa underlying87 rfl sizeOf84 dD rfl) rfl <| WL.r (Rd.ldF (L := penL) underlying84 rfl isz84 hk2 (x.fPen) (rfl) rfl) rfl <| WL.c1 hb129 rfl rfl ((ref_soundPen x.fPen _ (hx.below hk1).ok_fPen.row_fDash)) (fun w51 hw51 => ?_)
 have hB53 := btr hk1 hw51
 refine WL.z rfl rfl ?_
 refine W.ret (W.ret1 rfl rfl ?_)
 first
 | exact ⟨scr_val (by rw [itemB_n hcc hcs aS hrest, if_neg oO, if_pos aS]), hB53⟩
 | exact ⟨scr_val (by rw [itemB_n hcc hcs aS hrest, if_pos oO]), hB53⟩
 | exact ⟨scr_val (by rw [itemB_q hcc hcs aS hrq]), hB53⟩
 | exact ⟨scr_val (by rw [itemB_4 hcc hcs aS, ← hlq]; unfold lettersQ; first | (simp_all; done) | (simp_all <;> omega)), hB53⟩
 | exact ⟨scr_val (by rw [itemB_4 hcc hcs aS, lettersB_no (all_not hml (by simpa using (show (!fitsB _) = true by assumption)))]; rfl), hB53⟩
 | exact ⟨scr_val (by rw [itemB_l (clips_no hil (by simpa using (show (!clipB _) = true by assumption)))]), hB53⟩
 | exact ⟨scr_val (by rw [itemB_c (colorB_no hkl (by simpa using (show (!partB _ _ _) = true by assumption)))]), hB53⟩
 | exact ⟨scr_val (by rw [itemB_c (by unfold colorB; rw [show spaceB x.fColor.fSpace = false from by simpa using (show (!spaceB _) = true by assumption)]; rfl)]), hB53⟩
 | exact ⟨scr_val (by rw [itemB_l (by unfold clipsB; rw [decide_eq_false oO]; rfl)]), hB53⟩
 have h50' := dF h50
 refine W.skip <| W.sr <| WL.m rfl rfl <| WL.z rfl rfl ?_
 refine W.ret (W.ret1 rfl rfl ?_)
 first
 | exact ⟨scr_val (by rw [itemB_n hcc hcs aS hrest, if_neg oO, if_pos aS]), hk1⟩
 | exact ⟨scr_val (by rw [itemB_n hcc hcs aS hrest, if_pos oO]), hk1⟩
 | exact ⟨scr_val (by rw [itemB_q hcc hcs aS hrq]), hk1⟩
 | exact ⟨scr_val (by rw [itemB_4 hcc hcs aS, ← hlq]; unfold lettersQ; first | (simp_all; done) | (simp_all <;> omega)), hk1⟩
 | exact ⟨scr_val (by rw [itemB_4 hcc hcs aS, lettersB_no (all_not hml (by simpa using (show (!fitsB _) = true by assumption)))]; rfl), hk1⟩
 | exact ⟨scr_val (by rw [itemB_l (clips_no hil (by simpa using (show (!clipB _) = true by assumption)))]), hk1⟩
 | exact ⟨scr_val (by rw [itemB_c (colorB_no hkl (by simpa using (show (!partB _ _ _) = true by assumption)))]), hk1⟩
 | exact ⟨scr_val (by rw [itemB_c (by unfold colorB; rw [show spaceB x.fColor.fSpace = false from by simpa using (show (!spaceB _) = true by assumption)]; rfl)]), hk1⟩
 | exact ⟨scr_val (by rw [itemB_l (by unfold clipsB; rw [decide_eq_false oO]; rfl)]), hk1⟩
end
section
def headQ (x : PageV) : Bool := !sideB x.fWidth || !sideB x.fHeight || decide ((x.fItems.length : Int) > 4096)
theorem pageB_no {x : PageV} (h : headQ x = true) : pageB x = false := by
 unfold pageB; unfold headQ at h
 cases h1 : sideB x.fWidth with
 | false => simp
 | true => cases h2 : sideB x.fHeight with
  | false => simp
  | true =>
   rw [h1, h2] at h
   have : (x.fItems.length : Int) > 4096 := by simpa using h
   rw [decide_eq_false oO]; simp
theorem pageB_item {x : PageV} {j : Nat} (hj : j < x.fItems.length) (h : itemB x.fItems[j] = false) : pageB x = false := by unfold pageB; rw [all_not hj h, Bool.and_false]
theorem pageB_yes {x : PageV} (h : headQ x = false) (ha : ∀ j (hj : j < x.fItems.length), itemB x.fItems[j] = true) : pageB x = true := by
 unfold headQ at h
 simp only [Bool.or_eq_false_iff, Bool.not_eq_false', decide_eq_false_iff_not] at h
 unfold pageB; rw [h.1.1, h.1.2, decide_eq_true oO, all_of ha]; rfl
theorem ref_SoundPage (x : PageV) (w : World) (hx : PageOk w x) : Calls Tryz.prog 51 #[.agg (pageV x).toArray] w fun e w' => e = .returned (.bool (pageB x)) ∧ Below w.heap.size w w' := by
 have hrl : 0 < x.fItems.length → (pA x.pfItems).block < w.heap.size := fun h0 => hx.row_fItems.lt h0
 refine W.enter func51 rfl ntmps51 (Nat.le_of_ble_eq_true rfl) ?_
 have hB0 := Below.refl (w.heap.size) w
 refine W.sr <| WL.box rfl rfl (fun b1 wb1 eb1 hkb1 hub1 hsb1 => ?_)
 have hB2 := Upd.below hB0 (by rw [eb1]; exact hB0.size) hub1
 have hgeb1 : w.heap.size ≤ b1 := by rw [eb1]; exact hB0.size
 refine WL.z rfl rfl ?_
 refine W.seq ?_
 refine W.cutB 19 (headQ x) ?_ ?_
 refine W.reg <| WL.p (.fa underlying76 rfl sizeOf3 dD rfl) rfl <| WL.r (Rd.ld (isAgg3 _) rfl hkb1 rfl) rfl <| WL.c1 hb89 rfl rfl ((ref_Side _ _)) (fun w3 hw3 => ?_)
 obtain rfl := hw3
 refine WL.p (.not rfl) rfl <| WL.m rfl rfl <| WL.gd rfl rfl rfl (fun g4 => ?_) (fun g4 => ?_)
 have g4' := (nF g4)
 refine WL.p (.fa underlying76 rfl sizeOf3 dD rfl) rfl <| WL.gy rfl rfl rfl (by rw [(nF g4)] <;> rfl) <| WL.r (Rd.ld (isAgg3 _) rfl hkb1 rfl) rfl <| WL.gy rfl rfl rfl (by rw [(nF g4)] <;> rfl) <| WL.c1 hb89 rfl rfl ((ref_Side _ _)) (fun w5 hw5 => ?_)
 obtain rfl := hw5
 refine WL.gy rfl rfl rfl (by rw [(nF g4)] <;> rfl) <| WL.p (.not rfl) rfl <| WL.p (.pkF rfl (by rw [(nF g4)] <;> rfl) rfl) rfl <| WL.m rfl rfl <| WL.gd rfl rfl rfl (fun g6 => ?_) (fun g6 => ?_)
 have g6' := (nF g6)
 refine WL.p (.fa underlying76 rfl sizeOf74 dD rfl) rfl <| WL.gy rfl rfl rfl (by rw [(nF g6)] <;> rfl) <| WL.r (Rd.ld (isAgg74 _) rfl hkb1 rfl) rfl <| WL.gy rfl rfl rfl (by rw [(nF g6)] <;> rfl) <| WL.p (.lenS underlying74 rfl) rfl <| WL.gy rfl rfl rfl (by rw [(nF g6)] <;> rfl) <| WL.p (.gtr rfl rfl) rfl <| WL.p (.pkF rfl (by rw [(nF g6)] <;> rfl) rfl) rfl <| WL.nil <| ?_
 exact ⟨leE (lk_b rfl (by unfold headQ; first | (simp_all; done) | (simp_all <;> (intros; omega)))), rfl⟩
 have g6' := (nT g6)
 refine WL.gn rfl rfl rfl (by rw [(nT g6)] <;> rfl) <| WL.gn rfl rfl rfl (by rw [(nT g6)] <;> rfl) <| WL.gn rfl rfl rfl (by rw [(nT g6)] <;> rfl) <| WL.p (.pkT rfl (by rw [(nT g6)] <;> rfl) rfl) rfl <| WL.nil <| ?_
 exact ⟨leE (lk_b rfl (by unfold headQ; first | (simp_all; done) | (simp_all <;> (intros; omega)))), rfl⟩
 have g4' := (nT g4)
 refine WL.gn rfl rfl rfl (by rw [(nT g4)] <;> rfl) <| WL.gn rfl rfl rfl (by rw [(nT g4)] <;> rfl) <| WL.gn rfl rfl rfl (by rw [(nT g4)] <;> rfl) <| WL.p (.pkT rfl (by rw [(nT g4)] <;> rfl) rfl) rfl <| WL.m rfl rfl <| WL.gn rfl rfl rfl rfl <| WL.gn rfl rfl rfl rfl <| WL.gn rfl rfl rfl rfl <| WL.gn rfl rfl rfl rfl <| WL.p (.pkT rfl rfl rfl) rfl <| WL.nil <| ?_
 exact ⟨leE (lk_b rfl (by unfold headQ; first | (simp_all; done) | (simp_all <;> (intros; omega)))), rfl⟩
 refine W.cond rfl (fun h7 => ?_) (fun h7 => ?_)
 refine W.sr <| WL.z rfl rfl ?_
 refine W.ret (W.ret1 rfl rfl ?_)
 first
 | exact ⟨scr_val (by rw [pageB_no aS]), hB2⟩
 | exact ⟨scr_val (by rw [pageB_item hil (by simpa using (show (!itemB _) = true by assumption))]), hB2⟩
 | exact ⟨scr_val (by rw [pageB_yes hq fun j hj => hall j hj oO]), hB2⟩
 have hq : headQ x = false := by assumption
 refine W.skip <| W.seq <| W.sr <| WL.z rfl rfl ?_
 refine W.block ?_
 refine W.loop (α := Nat) (fun t => [(1, .pointer (some ⟨b1, 0, none⟩)), (3, .int .i64 (t : Int))]) (fun t w' => Below w.heap.size w w' ∧ Blk w' b1 (pageV x).toArray 76 ∧ t ≤ x.fItems.length ∧ ∀ j (hj : j < x.fItems.length), j < t → itemB x.fItems[j] = true) (fun t => x.fItems.length - t) (0) ⟨rfl, rfl, trivial⟩ (⟨hB2, hkb1, Nat.zero_le _, fun j _ h => absurd h oO⟩) (fun t w1 hR => ?_)
 obtain ⟨i, rfl⟩ : ∃ i, i = t := ⟨t, rfl⟩
 obtain ⟨hT, hk1, hi, hall⟩ := hR
 have hri := (hx.below hT).row_fItems
 have hln := hx.sl_fItems.len
 refine W.seq <| W.sr <| WL.m rfl rfl <| WL.p (.fa underlying76 rfl sizeOf74 dD rfl) rfl <| WL.r (Rd.ld (isAgg74 _) rfl hk1 rfl) rfl <| WL.p (.lenS underlying74 rfl) rfl <| WL.p (.lss rfl rfl) rfl <| WL.nil <| ?_
 refine W.cond rfl (fun h8 => ?_) (fun h8 => ?_)
 have h8' := dT h8
 have hil : i < x.fItems.length := by omega
 refine W.skip <| W.seq <| W.block <| W.sr <| WL.p (.fa underlying76 rfl sizeOf74 dD rfl) rfl <| WL.r (Rd.ld (isAgg74 _) rfl hk1 rfl) rfl <| WL.m rfl rfl <| WL.p (.ixm underlying74 sizeOf87 rfl rfl (hri.isp oO) (i) (rfl) oO) rfl <| WL.r (Rd.ldS underlying87 rfl isz87 hri (i) oO rfl) rfl <| WL.c1 hb90 rfl rfl ((ref_SoundItem _ _ ((hx.below hT).all_fItems _ (List.getElem_mem hil)))) (fun w9 hw9 => ?_)
 have hk10 := hk1.below hw9 hk1.lt
 have hB12 := btr hT hw9
 refine WL.p (.not rfl) rfl <| WL.nil <| ?_
 refine W.cond rfl (fun h13 => ?_) (fun h13 => ?_)
 have h13' := (nT h13)
 refine W.sr <| WL.z rfl rfl ?_
 refine W.ret (W.ret1 rfl rfl ?_)
 first
 | exact ⟨scr_val (by rw [pageB_no aS]), hB12⟩
 | exact ⟨scr_val (by rw [pageB_item hil (by simpa using (show (!itemB _) = true by assumption))]), hB12⟩
 | exact ⟨scr_val (by rw [pageB_yes hq fun j hj => hall j hj oO]), hB12⟩
 have h13' := (nF h13)
 refine W.skip <| W.reg <| WL.m rfl rfl <| WL.p (.iis (((i + 1 : Nat) : Int)) (.add rfl rfl (i64w oO)) oO) rfl <| WL.z rfl rfl ?_
 exact ⟨i + 1, ⟨rfl, rfl, trivial⟩, ⟨hB12, hk10, by ((try simp only) <;> omega), fun j hj h => by
  rcases Nat.lt_succ_iff_lt_or_eq.1 h with h2 | rfl
  exact hall j hj h2
  simp_all⟩, by ((try simp only) <;> omega)⟩
 have h8' := dF h8
 refine W.exit <| W.sr <| WL.z rfl rfl ?_
 refine W.ret (W.ret1 rfl rfl ?_)
 first
 | exact ⟨scr_val (by rw [pageB_no aS]), hT⟩
 | exact ⟨scr_val (by rw [pageB_item hil (by simpa using (show (!itemB _) = true by assumption))]), hT⟩
 | exact ⟨scr_val (by rw [pageB_yes hq fun j hj => hall j hj oO]), hT⟩
theorem law_sound (p : Option Addr) (l : List PageV) (c : Nat) (w : World) (hr : RowM pageL w p l) (hl : l.length ≤ 9223372036854775807) (ho : ∀ x ∈ l, PageOk w x) :
  Calls Tryz.prog 27 #[.slice p l.length c] w fun e w' => e = .returned (.bool (l.all pageB)) ∧ Below w.heap.size w w' := by
 have hrl : 0 < l.length → (pA p).block < w.heap.size := fun h0 => hr.lt h0
 refine W.enter func27 rfl ntmps27 (Nat.le_of_ble_eq_true rfl) ?_
 have hB0 := Below.refl (w.heap.size) w
 refine W.sr <| WL.z rfl rfl ?_
 refine W.seq <| W.sr <| WL.z rfl rfl ?_
 refine W.block ?_
 refine W.loop (α := Nat) (fun t => [(0, .slice p l.length c), (3, .int .i64 (t : Int))]) (fun t w' => Below w.heap.size w w' ∧ t ≤ l.length ∧ ∀ j (hj : j < l.length), j < t → pageB l[j] = true) (fun t => l.length - t) (0) ⟨rfl, rfl, trivial⟩ (⟨hB0, Nat.zero_le _, fun j _ h => absurd h oO⟩) (fun t w1 hR => ?_)
 obtain ⟨i, rfl⟩ : ∃ i, i = t := ⟨t, rfl⟩
 obtain ⟨hT, hi, hall⟩ := hR
 have hrb := hr.below hT hrl
 refine W.seq <| W.sr <| WL.m rfl rfl <| WL.m rfl rfl <| WL.p (.lenS underlying47 rfl) rfl <| WL.p (.lss rfl rfl) rfl <| WL.nil <| ?_
 refine W.cond rfl (fun h1 => ?_) (fun h1 => ?_)
 have h1' := dT h1
 have hil : i < l.length := by omega
 refine W.skip <| W.seq <| W.block <| W.sr <| WL.m rfl rfl <| WL.m rfl rfl <| WL.p (.ixm underlying47 sizeOf76 rfl rfl (hrb.isp oO) (i) (rfl) oO) rfl <| WL.r (Rd.ldS underlying76 rfl isz76 hrb (i) oO rfl) rfl <| WL.c1 hb51 rfl rfl ((ref_SoundPage _ _ ((ho _ (List.getElem_mem hil)).below hT))) (fun w2 hw2 => ?_)
 have hB4 := btr hT hw2
 refine WL.p (.not rfl) rfl <| WL.nil <| ?_
 refine W.cond rfl (fun h5 => ?_) (fun h5 => ?_)
 have h5' := (nT h5)
 refine W.sr <| WL.z rfl rfl ?_
 refine W.ret (W.ret1 rfl rfl ?_)
 first
 | exact ⟨scr_val (by rw [all_not hil (by simpa using (show (!pageB _) = true by assumption))]), hB4⟩
 | exact ⟨scr_val (by rw [all_of (q := pageB) (l := l) fun j hj => hall j hj oO]), hB4⟩
 have h5' := (nF h5)
 refine W.skip <| W.reg <| WL.m rfl rfl <| WL.p (.iis (((i + 1 : Nat) : Int)) (.add rfl rfl (i64w oO)) oO) rfl <| WL.z rfl rfl ?_
 exact ⟨i + 1, ⟨rfl, rfl, trivial⟩, ⟨hB4, by ((try simp only) <;> omega), fun j hj h => by
  rcases Nat.lt_succ_iff_lt_or_eq.1 h with h2 | rfl
  exact hall j hj h2
  simp_all⟩, by ((try simp only) <;> omega)⟩
 have h1' := dF h1
 refine W.exit <| W.sr <| WL.z rfl rfl ?_
 refine W.ret (W.ret1 rfl rfl ?_)
 first
 | exact ⟨scr_val (by rw [all_not hil (by simpa using (show (!pageB _) = true by assumption))]), hT⟩
 | exact ⟨scr_val (by rw [all_of (q := pageB) (l := l) fun j hj => hall j hj oO]), hT⟩
end
section
def sumOf {α : Type} (f : α → Nat) (l : List α) : Nat := (l.map f).sum
theorem sumOf_take {α : Type} {f : α → Nat} {l : List α} {i : Nat} (h : i < l.length) : sumOf f (l.take (i + 1)) = sumOf f (l.take i) + f l[i] := by
 unfold sumOf
 rw [List.take_add_one, List.getElem?_eq_getElem h, Option.toList_some, List.map_append, List.sum_append]; simp
theorem sumOf_le {α : Type} {f : α → Nat} {l : List α} (i : Nat) : sumOf f (l.take i) ≤ sumOf f l := by
 unfold sumOf
 conv => rhs; rw [← List.take_append_drop i l]
 rw [List.map_append, List.sum_append]; omega
def itemW (x : ItemV) : Nat := x.fPath.length + x.fBytes.length + x.fPen.fDash.length + 5 * x.fClips.length
def clipW (x : ItemV) : Nat := sumOf (fun c : ClipV => c.fPath.length) x.fClips
def pageW (x : PageV) : Nat := 5 * x.fItems.length + sumOf (fun y => itemW y + clipW y) x.fItems
def pagesW (l : List PageV) : Nat := l.length + sumOf pageW l
structure ItemS (x : ItemV) : Prop where
 path : x.fPath.length ≤ 1048576
 bytes : x.fBytes.length ≤ 1048576
 dash : x.fPen.fDash.length ≤ 1048576
 clips : x.fClips.length ≤ 1048576
 each : ∀ c ∈ x.fClips, c.fPath.length ≤ 1048576
structure PagesS (l : List PageV) : Prop where
 len : l.length ≤ 1048576
 items : ∀ x ∈ l, x.fItems.length ≤ 1048576 ∧ ∀ y ∈ x.fItems, ItemS y
/-- what was counted, against what there is: all of it, or enough -/
def Cnt (n : Nat) (full : Nat) : Prop := n ≤ full ∧ (n < 2000 → n = full)
set_option maxHeartbeats 1600000 in
theorem law26_light (p : Option Addr) (l : List PageV) (c : Nat) (w : World) (hr : RowM pageL w p l) (hs : PagesS l) (ho : ∀ x ∈ l, PageOk w x) :
  Calls Tryz.prog 26 #[.slice p l.length c] w fun e w' => e = .returned (.bool (decide (pagesW l < 2000))) ∧ Below w.heap.size w w' := by
 have hrl : 0 < l.length → (pA p).block < w.heap.size := fun h0 => hr.lt h0
 have hl := hs.len
 refine W.enter func26 rfl ntmps26 (Nat.le_of_ble_eq_true rfl) ?_
 have hB0 := Below.refl (w.heap.size) w
 refine W.sr <| WL.z rfl rfl ?_
 refine W.sr <| WL.m rfl rfl <| WL.p (.lenS underlying47 rfl) rfl <| WL.z rfl rfl ?_
 refine W.seq <| W.sr <| WL.z rfl rfl ?_
 refine W.block ?_
 refine W.loop (α := Nat × Nat) (fun t => [(0, .slice p l.length c), (3, .int .i64 (t.2 : Int)), (4, .int .i64 (t.1 : Int))]) (fun t w' => Below w.heap.size w w' ∧ t.1 ≤ l.length ∧ Cnt t.2 (l.length + sumOf pageW (l.take t.1)) ∧ t.2 ≤ 100000000) (fun t => l.length - t.1) ((0, l.length)) ⟨rfl, rfl, rfl, trivial⟩ (⟨hB0, Nat.zero_le _, ⟨by simp [sumOf], fun _ => by simp [sumOf]⟩, by simp only []; omega⟩) (fun t w1 hR => ?_)
 obtain ⟨i, n⟩ := t
 obtain ⟨hT, hi, hcn, hn⟩ := hR
 simp only at hi hcn hn ⊢
 have hrb := hr.below hT hrl
 have hlt0 : ∀ j (hj : j < l.length), 0 < l[j].fItems.length → (pA l[j].pfItems).block < w.heap.size := fun j hj h0 => (ho _ (List.getElem_mem hj)).row_fItems.lt h0
 refine W.seq ?_
 refine W.cutB 17 (decide (i < l.length) && decide (n < 2000)) ?_ ?_
 refine W.reg <| WL.m rfl rfl <| WL.m rfl rfl <| WL.p (.lenS underlying47 rfl) rfl <| WL.p (.lss rfl rfl) rfl <| WL.m rfl rfl <| WL.gd rfl rfl rfl (fun g1 => ?_) (fun g1 => ?_)
 have g1' := dT g1
 refine WL.m rfl rfl <| WL.gy rfl rfl rfl g1 <| WL.p (.lss rfl rfl) rfl <| WL.p (.pkT rfl g1 rfl) rfl <| WL.nil <| ?_
 exact ⟨leE (lk_b rfl (by first | (simp_all; done) | (simp_all <;> omega))), rfl⟩
 have g1' := dF g1
 refine WL.gn rfl rfl rfl g1 <| WL.p (.pkF rfl g1 rfl) rfl <| WL.nil <| ?_
 exact ⟨leE (lk_b rfl (by first | (simp_all; done) | (simp_all <;> omega))), rfl⟩
 refine W.cond rfl (fun h2 => ?_) (fun h2 => ?_)
 have hin : i < l.length ∧ n < 2000 := by simpa using (show (decide (i < l.length) && decide (n < 2000)) = true by assumption)
 have hil := hin.1
 have hpo := ho _ (List.getElem_mem hil)
 have hps := hs.items _ (List.getElem_mem hil)
 have hsm := sumOf_take (f := pageW) hil
 have hrit := (hpo.below hT).row_fItems
 have hitl := hlt0 i hil
 refine W.skip <| W.seq <| W.block <| W.sr <| WL.m rfl rfl <| WL.m rfl rfl <| WL.m rfl rfl <| WL.p (.ixm underlying47 sizeOf76 rfl rfl (hrb.isp oO) (i) (rfl) oO) rfl <| WL.p (.fa underlying76 rfl sizeOf74 dD rfl) rfl <| WL.r (Rd.ldc (isAgg74 _) rfl ((hrb.field (i) oO 2 dD).trans rfl)) rfl <| WL.p (.lenS underlying74 rfl) rfl <| WL.p (.iis (((5 * l[i].fItems.length : Nat) : Int)) (.mul rfl rfl (i64w oO)) oO) rfl <| WL.p (.iis (((n + 5 * l[i].fItems.length : Nat) : Int)) (.add rfl rfl (i64w oO)) oO) rfl <| WL.z rfl rfl ?_
 refine W.sr <| WL.z rfl rfl ?_
 refine W.block ?_
 refine W.loop (α := Nat × Nat) (fun t => [(0, .slice p l.length c), (3, .int .i64 (t.2 : Int)), (4, .int .i64 (i : Int)), (5, .int .i64 (t.1 : Int))]) (fun t w' => Below w.heap.size w w' ∧ t.1 ≤ l[i].fItems.length ∧ Cnt t.2 (n + 5 * l[i].fItems.length + sumOf (fun y => itemW y + clipW y) (l[i].fItems.take t.1)) ∧ t.2 ≤ 100000000 ∧ n ≤ t.2) (fun t => l[i].fItems.length - t.1) ((0, n + 5 * l[i].fItems.length)) ⟨rfl, rfl, rfl, rfl, trivial⟩ (⟨hT, Nat.zero_le _, ⟨by simp [sumOf], fun _ => by simp [sumOf]⟩, by simp only []; omega, by simp only []; omega⟩) (fun t w1 hR => ?_)
 obtain ⟨k, n2⟩ := t
 obtain ⟨hT2, hk, hcn2, hn2, hnn⟩ := hR
 simp only at hk hcn2 hn2 hnn ⊢
 have hrb2 := hr.below hT2 hrl
 have hrit2 := (hpo.below hT2).row_fItems
 refine W.seq ?_
 refine W.cutB 40 (decide (k < l[i].fItems.length) && decide (n2 < 2000)) ?_ ?_
 refine W.reg <| WL.m rfl rfl <| WL.m rfl rfl <| WL.m rfl rfl <| WL.p (.ixm underlying47 sizeOf76 rfl rfl (hrb2.isp oO) (i) (rfl) oO) rfl <| WL.p (.fa underlying76 rfl sizeOf74 dD rfl) rfl <| WL.r (Rd.ldc (isAgg74 _) rfl ((hrb2.field (i) oO 2 dD).trans rfl)) rfl <| WL.p (.lenS underlying74 rfl) rfl <| WL.p (.lss rfl rfl) rfl <| WL.m rfl rfl <| WL.gd rfl rfl rfl (fun g3 => ?_) (fun g3 => ?_)
 have g3' := dT g3
 refine WL.m rfl rfl <| WL.gy rfl rfl rfl g3 <| WL.p (.lss rfl rfl) rfl <| WL.p (.pkT rfl g3 rfl) rfl <| WL.nil <| ?_
 exact ⟨leE (lk_b rfl (by first | (simp_all; done) | (simp_all <;> omega))), rfl⟩
 have g3' := dF g3
 refine WL.gn rfl rfl rfl g3 <| WL.p (.pkF rfl g3 rfl) rfl <| WL.nil <| ?_
 exact ⟨leE (lk_b rfl (by first | (simp_all; done) | (simp_all <;> omega))), rfl⟩
 refine W.cond rfl (fun h4 => ?_) (fun h4 => ?_)
 have hkn : k < l[i].fItems.length ∧ n2 < 2000 := by simpa using (show (decide (k < l[i].fItems.length) && decide (n2 < 2000)) = true by assumption)
 have hkl := hkn.1
 have hio := hpo.all_fItems _ (List.getElem_mem hkl)
 have his := hps.2 _ (List.getElem_mem hkl)
 have hsm2 := sumOf_take (f := fun y => itemW y + clipW y) hkl
 have hs1 := his.path; have hs2 := his.bytes; have hs3 := his.dash; have hs4 := his.clips
 refine W.skip <| W.seq <| W.block <| W.sr <| WL.m rfl rfl <| WL.m rfl rfl <| WL.p (.ixm underlying47 sizeOf76 rfl rfl (hrb2.isp oO) (i) (rfl) oO) rfl <| WL.p (.fa underlying76 rfl sizeOf74 dD rfl) rfl <| WL.r (Rd.ldc (isAgg74 _) rfl ((hrb2.field (i) oO 2 dD).trans rfl)) rfl <| WL.m rfl rfl <| WL.p (.ixm underlying74 sizeOf87 rfl rfl (hrit2.isp oO) (k) (rfl) oO) rfl <| WL.r (Rd.ldS underlying87 rfl isz87 hrit2 (k) oO rfl) rfl <| WL.alloc zeroValue87 rfl (fun b5 wb5 eb5 hkb5 hub5 hsb5 => ?_)
 have hB10 := Upd.below hT2 (by rw [eb5]; exact hT2.size) hub5
 have hgeb5 : w.heap.size ≤ b5 := by rw [eb5]; exact hT2.size
 refine WL.stL rfl rfl hkb5 isz87 rfl rfl (fun w11 hkw11 huw11 hsw11 => ?_)
 have hB14 := Upd.below hB10 oO huw11
 refine WL.nil <| ?_
 refine W.sr <| WL.m rfl rfl <| WL.p (.fa underlying87 rfl sizeOf77 dD rfl) rfl <| WL.r (Rd.ld (isAgg77 _) rfl hkw11 rfl) rfl <| WL.p (.lenS underlying77 rfl) rfl <| WL.p (.iis (((n2 + l[i].fItems[k].fPath.length : Nat) : Int)) (.add rfl rfl (i64w oO)) oO) rfl <| WL.p (.fa underlying87 rfl sizeOf22 dD rfl) rfl <| WL.r (Rd.ld (isAgg22 _) rfl hkw11 rfl) rfl <| WL.p (.lenS underlying22 rfl) rfl <| WL.p (.iis (((n2 + l[i].fItems[k].fPath.length + l[i].fItems[k].fBytes.length : Nat) : Int)) (.add rfl rfl (i64w oO)) oO) rfl <| WL.p (.fa underlying87 rfl sizeOf84 dD rfl) rfl <| WL.p (.fa underlying84 rfl sizeOf82 dD rfl) rfl <| WL.r (Rd.ld (isAgg82 _) rfl hkw11 rfl) rfl <| WL.p (.lenS underlying82 rfl) rfl <| WL.p (.iis (((n2 + l[i].fItems[k].fPath.length + l[i].fItems[k].fBytes.length + l[i].fItems[k].fPen.fDash.length : Nat) : Int)) (.add rfl rfl (i64w oO)) oO) rfl <| WL.p (.fa underlying87 rfl sizeOf81 dD rfl) rfl <| WL.r (Rd.ld (isAgg81 _) rfl hkw11 rfl) rfl <| WL.p (.lenS underlying81 rfl) rfl <| WL.p (.iis (((5 * l[i].fItems[k].fClips.length : Nat) : Int)) (.mul rfl rfl (i64w oO)) oO) rfl <| WL.p (.iis (((n2 + itemW l[i].fItems[k] : Nat) : Int)) (.add rfl rfl (i64w oO)) (by unfold itemW; omega)) rfl <| WL.z rfl rfl ?_
 refine W.sr <| WL.z rfl rfl ?_
 refine W.block ?_
 refine W.loop (α := Nat × Nat) (fun t => [(0, .slice p l.length c), (3, .int .i64 (t.2 : Int)), (4, .int .i64 (i : Int)), (5, .int .i64 (k : Int)), (6, .pointer (some ⟨b5, 0, none⟩)), (7, .int .i64 (t.1 : Int))]) (fun t w' => w11 = w' ∧ t.1 ≤ l[i].fItems[k].fClips.length ∧ Cnt t.2 (n2 + itemW l[i].fItems[k] + sumOf (fun c : ClipV => c.fPath.length) (l[i].fItems[k].fClips.take t.1)) ∧ t.2 ≤ 100000000 ∧ n2 ≤ t.2) (fun t => l[i].fItems[k].fClips.length - t.1) ((0, n2 + itemW l[i].fItems[k])) ⟨rfl, rfl, rfl, rfl, rfl, rfl, trivial⟩ (⟨rfl, Nat.zero_le _, ⟨by simp [sumOf], fun _ => by simp [sumOf]⟩, by simp only []; unfold itemW; omega, by simp only []; omega⟩) (fun t w1 hR => ?_)
 obtain ⟨j, n3⟩ := t
 obtain ⟨rfl, hj, hcn3, hn3, hnn3⟩ := hR
 simp only at hj hcn3 hn3 hnn3 ⊢
 have hrcl := (hio.below hB14).row_fClips
 refine W.seq ?_
 refine W.cutB 78 (decide (j < l[i].fItems[k].fClips.length) && decide (n3 < 2000)) ?_ ?_
 refine W.reg <| WL.m rfl rfl <| WL.p (.fa underlying87 rfl sizeOf81 dD rfl) rfl <| WL.r (Rd.ld (isAgg81 _) rfl hkw11 rfl) rfl <| WL.p (.lenS underlying81 rfl) rfl <| WL.p (.lss rfl rfl) rfl <| WL.m rfl rfl <| WL.gd rfl rfl rfl (fun g15 => ?_) (fun g15 => ?_)
 have g15' := dT g15
 refine WL.m rfl rfl <| WL.gy rfl rfl rfl g15 <| WL.p (.lss rfl rfl) rfl <| WL.p (.pkT rfl g15 rfl) rfl <| WL.nil <| ?_
 exact ⟨leE (lk_b rfl (by first | (simp_all; done) | (simp_all <;> omega))), rfl⟩
 have g15' := dF g15
 refine WL.gn rfl rfl rfl g15 <| WL.p (.pkF rfl g15 rfl) rfl <| WL.nil <| ?_
 exact ⟨leE (lk_b rfl (by first | (simp_all; done) | (simp_all <;> omega))), rfl⟩
 refine W.cond rfl (fun h16 => ?_) (fun h16 => ?_)
 have hjn : j < l[i].fItems[k].fClips.length ∧ n3 < 2000 := by simpa using (show (decide (j < l[i].fItems[k].fClips.length) && decide (n3 < 2000)) = true by assumption)
 have hjl := hjn.1
 have hjs := his.each _ (List.getElem_mem hjl)
 have hsm3 := sumOf_take (f := fun c : ClipV => c.fPath.length) hjl
 refine W.skip <| W.seq <| W.block <| W.reg <| WL.m rfl rfl <| WL.p (.fa underlying87 rfl sizeOf81 dD rfl) rfl <| WL.r (Rd.ld (isAgg81 _) rfl hkw11 rfl) rfl <| WL.m rfl rfl <| WL.p (.ixm underlying81 sizeOf89 rfl rfl (hrcl.isp oO) (j) (rfl) oO) rfl <| WL.p (.fa underlying89 rfl sizeOf77 dD rfl) rfl <| WL.r (Rd.ldc (isAgg77 _) rfl ((hrcl.field (j) oO 0 dD).trans rfl)) rfl <| WL.p (.lenS underlying77 rfl) rfl <| WL.p (.iis (((n3 + l[i].fItems[k].fClips[j].fPath.length : Nat) : Int)) (.add rfl rfl (i64w oO)) oO) rfl <| WL.z rfl rfl ?_
 refine W.reg <| WL.m rfl rfl <| WL.p (.iis (((j + 1 : Nat) : Int)) (.add rfl rfl (i64w oO)) oO) rfl <| WL.z rfl rfl ?_
 exact ⟨(j + 1, n3 + l[i].fItems[k].fClips[j].fPath.length), ⟨rfl, rfl, rfl, rfl, rfl, rfl, trivial⟩, ⟨rfl, by ((try simp only) <;> omega), ⟨by simp only []; rw [hsm3]; have := hcn3.2 hjn.2; omega, fun _ => by simp only []; rw [hsm3]; have := hcn3.2 hjn.2; omega⟩, by simp only []; omega, by simp only []; omega⟩, by ((try simp only) <;> omega)⟩
 have hle3 := sumOf_le (f := fun c : ClipV => c.fPath.length) (l := l[i].fItems[k].fClips) j
 have hc3 : Cnt n3 (n2 + itemW l[i].fItems[k] + clipW l[i].fItems[k]) := by
  unfold clipW
  refine ⟨by have := hcn3.1; omega, fun h => ?_⟩
  have he := hcn3.2 h
  have hjj : j = l[i].fItems[k].fClips.length := by
   have h78 : (decide (j < l[i].fItems[k].fClips.length) && decide (n3 < 2000)) = false := by assumption
   rw [decide_eq_true h, Bool.and_true, decide_eq_false_iff_not] at h78; omega
  rw [he, hjj, List.take_length]
 refine W.exit <| W.reg <| WL.m rfl rfl <| WL.p (.iis (((k + 1 : Nat) : Int)) (.add rfl rfl (i64w oO)) oO) rfl <| WL.z rfl rfl ?_
 exact ⟨(k + 1, n3), ⟨rfl, rfl, rfl, rfl, trivial⟩, ⟨hB14, by ((try simp only) <;> omega), ⟨by simp only []; rw [hsm2]; have h1 := hcn2.2 hkn.2; have h2 := hc3.1; omega, fun h => by simp only [] at h ⊢; rw [hsm2]; have h1 := hcn2.2 hkn.2; have h2 := hc3.2 h; omega⟩, by simp only []; omega, by simp only []; omega⟩, by ((try simp only) <;> omega)⟩
 have hle2 := sumOf_le (f := fun y => itemW y + clipW y) (l := l[i].fItems) k
 have hc2 : Cnt n2 (n + pageW l[i]) := by
  unfold pageW
  refine ⟨by have := hcn2.1; omega, fun h => ?_⟩
  have he := hcn2.2 h
  have hkk : k = l[i].fItems.length := by
   have h40 : (decide (k < l[i].fItems.length) && decide (n2 < 2000)) = false := by assumption
   rw [decide_eq_true h, Bool.and_true, decide_eq_false_iff_not] at h40; omega
  rw [he, hkk, List.take_length]; omega
 refine W.exit <| W.reg <| WL.m rfl rfl <| WL.p (.iis (((i + 1 : Nat) : Int)) (.add rfl rfl (i64w oO)) oO) rfl <| WL.z rfl rfl ?_
 exact ⟨(i + 1, n2), ⟨rfl, rfl, rfl, trivial⟩, ⟨hT2, by ((try simp only) <;> omega), ⟨by simp only []; rw [hsm]; have h1 := hcn.2 hin.2; have h2 := hc2.1; omega, fun h => by simp only [] at h ⊢; rw [hsm]; have h1 := hcn.2 hin.2; have h2 := hc2.2 h; omega⟩, by simp only []; omega⟩, by ((try simp only) <;> omega)⟩
 have hle1 := sumOf_le (f := pageW) (l := l) i
 have hc1 : Cnt n (pagesW l) := by
  unfold pagesW
  refine ⟨by have := hcn.1; omega, fun h => ?_⟩
  have he := hcn.2 h
  have hii : i = l.length := by
   have h17 : (decide (i < l.length) && decide (n < 2000)) = false := by assumption
   rw [decide_eq_true h, Bool.and_true, decide_eq_false_iff_not] at h17; omega
  rw [he, hii, List.take_length]
 have hfin : decide ((n : Int) < 2000) = decide (pagesW l < 2000) := by
  rw [Bool.eq_iff_iff, decide_eq_true_eq, decide_eq_true_eq]
  have h1 := hc1.1; have h2 := hc1.2
  omega
 refine W.exit <| W.sr <| WL.m rfl rfl <| WL.p (.lss rfl rfl) rfl <| WL.z rfl rfl ?_
 refine W.ret (W.ret1 rfl rfl ?_)
 exact ⟨scr_val (by rw [hfin]), hT⟩
end
section
open Go.RowKit Go.WideShapes Go.ChangeShapes
def WH (P : Program) (n : Sh) (ops : Array Oper) (Q : Exit → Fr → World → Prop) (S : World → Prop) (fuel : Nat) (listed : Array Bool) (f : Fr) (w : World) : Prop := ∀ a, Rep n f a → wpAnyH P .any ops (lift n Q) S fuel listed a w
section
variable {P : Program} {n : Sh} {f : Fr} {ops : Array Oper} {Q : Exit → Fr → World → Prop} {w : World} {fuel : Nat} {listed : Array Bool} {S : World → Prop}
theorem W.regH {id : Nat} {l : List Oper} (N : Nat) (hN : l.length = N) (hm : P.follows .mixedOrders = true) (S : World → Prop) (h : ∀ w1, Drew w w1 → WH P n l.toArray Q S N (Array.replicate N false) f w1) : W P n (.region id l.toArray true) Q f w := by
 unfold W
 exact fun a ha => wp_region_held (S := S) hm (by
  subst hN
  have := h (w.drewN 1) ⟨1, rfl⟩ a ha
  rw [show l.toArray.size = l.length by simp]
  exact this)
/-- an operation that reads what stands is taken first -/
theorem WH.tk (i : Nat) {d ty : Nat} {pos : String} {aft : Array Edge} {op : Op} {v : Value} (hi : ops[i]? = some ⟨some d, op, ty, pos, aft, none⟩) (hp : ∀ w', S w' → Rd P op f w' v) (hS : S w) (hd : Nat.blt d n.n = true)
  (k : WH P n ops Q S fuel (listed.setIfInBounds i true) ((d, v) :: f) w) (hs : Region.noSelect ops = true := by kernel_rfl) (hf : Region.free .any ops listed i = true := by kernel_rfl)
  (hr : (Region.ready .any ops listed).contains i = true := by kernel_rfl) (hQ : ∀ c f w, Q (.panic c) f w → Q (.panic c) [] w := by first | exact fun c f w h => pn_post h | exact fun c f w h => h) : WH P n ops Q S (fuel + 1) listed f w := by
 intro a ha
 refine wpAnyH_take hi hs hf hr ?_ (.inl ⟨by simp [Region.wanted], fun w' hw' => hp w' hw' _ ha.agr _ _ _ _ _⟩) hS (k _ (ha.put hd v))
 rintro c b w' ⟨g, hg, hq⟩
 have hg1 := hg.1
 have hg2 := hg.2.1
 refine ⟨[], ⟨?_, ?_, fun i u hu => by cases hu⟩, hQ c g w' hq⟩
 ·
  exact hg1
 ·
  simpa [Act.put] using hg2
theorem WH.tp (i : Nat) {d ty : Nat} {pos : String} {aft : Array Edge} {op : Op} {v : Value} (hi : ops[i]? = some ⟨some d, op, ty, pos, aft, none⟩) (hp : Pure P op f v) (hS : S w) (hd : Nat.blt d n.n = true)
  (k : WH P n ops Q S fuel (listed.setIfInBounds i true) ((d, v) :: f) w) (hs : Region.noSelect ops = true := by kernel_rfl) (hf : Region.free .any ops listed i = true := by kernel_rfl)
  (hr : (Region.ready .any ops listed).contains i = true := by kernel_rfl) (hQ : ∀ c f w, Q (.panic c) f w → Q (.panic c) [] w := by first | exact fun c f w h => pn_post h | exact fun c f w h => h) : WH P n ops Q S (fuel + 1) listed f w :=
 WH.tk i hi (fun _ _ => hp.rd) hS hd k hs hf hr hQ
theorem yl_of {ops : Array Oper} {a : Act} {j dj : Nat} {t : Bool} (hj : (ops[j]?).bind (·.dst) = some dj) (hval : a.tmps.getD dj undef = .bool t) : yielded ops a.tmps j = some t := by
 unfold yielded
 cases ho : ops[j]? with
 | none => rw [ho] at hj; cases hj
 | some o =>
  rw [ho] at hj
  simp only [Option.bind_some] at hj
  have h1 : a.tmps[dj]? = some (.bool t) := by
   cases h : a.tmps[dj]? with
   | none => rw [Array.getD_eq_getD_getElem?, h] at hval; cases hval
   | some v => rw [Array.getD_eq_getD_getElem?, h] at hval; exact congrArg some hval
  simp [hj, h1]
/-- .. that is guarded, where the guard says yes -/
theorem WH.ty (i : Nat) {d ty j dj : Nat} {b t : Bool} {pos : String} {aft : Array Edge} {op : Op} {v : Value} (hi : ops[i]? = some ⟨some d, op, ty, pos, aft, some (j, b)⟩) (hj : (ops[j]?).bind (·.dst) = some dj) (ht : look f dj = some (.bool t)) (e : t = b)
  (hp : ∀ w', S w' → Rd P op f w' v) (hS : S w) (hd : Nat.blt d n.n = true)
  (k : WH P n ops Q S fuel (listed.setIfInBounds i true) ((d, v) :: f) w) (hs : Region.noSelect ops = true := by kernel_rfl) (hf : Region.free .any ops listed i = true := by kernel_rfl)
  (hr : (Region.ready .any ops listed).contains i = true := by kernel_rfl) (hQ : ∀ c f w, Q (.panic c) f w → Q (.panic c) [] w := by first | exact fun c f w h => pn_post h | exact fun c f w h => h) : WH P n ops Q S (fuel + 1) listed f w := by
 intro a ha
 have hyl := yl_of hj (ha.2.2 _ _ ht)
 refine wpAnyH_take hi hs hf hr ?_ (.inl ⟨by simp [Region.wanted, hyl, e], fun w' hw' => hp w' hw' _ ha.agr _ _ _ _ _⟩) hS (k _ (ha.put hd v))
 rintro c b w' ⟨g, hg, hq⟩
 have hg1 := hg.1
 have hg2 := hg.2.1
 refine ⟨[], ⟨?_, ?_, fun i u hu => by cases hu⟩, hQ c g w' hq⟩
 ·
  exact hg1
 ·
  simpa [Act.put] using hg2
/-- a guard, either way -/
theorem WH.cs {dj : Nat} {t : Bool} (b : Bool) (_ : look f dj = some (.bool t)) (hy : t = b → WH P n ops Q S fuel listed f w) (hn : t = !b → WH P n ops Q S fuel listed f w) : WH P n ops Q S fuel listed f w := by
 by_cases h : t = b
 ·
  exact hy h
 ·
  exact hn (by revert h; cases t <;> cases b <;> decide)
theorem WH.op (j : Nat) {o : Oper} (hi : ops[j]? = some o) (h : WL P n ops (nx (fun f' w' => S w' ∧ WH P n ops Q S fuel (listed.setIfInBounds j true) f' w') Q) [o] f w) (a : Act) (ha : Rep n f a) :
  wpOp P ops (lift n Q) j (fun a' w' => S w' ∧ wpAnyH P .any ops (lift n Q) S fuel (listed.setIfInBounds j true) a' w') a w := by
 unfold WL at h
 have := h a ha
 unfold wpOp
 simp only [hi]
 have conv : ∀ (e : Exit) (a : Act) (w : World), lift n (nx (fun f' w' => S w' ∧ WH P n ops Q S fuel (listed.setIfInBounds j true) f' w') Q) e a w → Exit.then (fun a' w' => S w' ∧ wpAnyH P .any ops (lift n Q) S fuel (listed.setIfInBounds j true) a' w') (lift n Q) e a w := by
  rintro e a w ⟨g, hg, hq⟩
  cases e with
  | normal => exact ⟨hq.1, hq.2 a hg⟩
  | _ => exact ⟨g, hg, hq⟩
 unfold wpList at this
 split
 ·
  next hwt =>
  rw [if_pos hwt] at this
  refine this.imp (fun h => ?_) fun ⟨h1, a', w', h2⟩ => ⟨h1, a', w', conv _ _ _ h2⟩
  have h' : o.wp P a w (fun a' w' => S w' ∧ wpAnyH P .any ops (lift n Q) S fuel (listed.setIfInBounds j true) a' w') (lift n (nx (fun f' w' => S w' ∧ WH P n ops Q S fuel (listed.setIfInBounds j true) f' w') Q)) :=
   Oper.wp_mono (fun a w h => conv .normal a w h) h
  exact upon_post h' fun e a w he h => by
   cases e with
   | normal => exact absurd rfl he
   | _ => exact conv _ a w h
 ·
  next hwt =>
  rw [if_neg hwt] at this
  exact conv .normal _ _ this
/-- the one that comes up now -/
theorem WH.br1 (i : Nat) {o : Oper} (hi : ops[i]? = some o) (h : WL P n ops (nx (fun f' w' => S w' ∧ WH P n ops Q S fuel (listed.setIfInBounds i true) f' w') Q) [o] f w) (hr : Region.ready .any ops listed = [i] := by kernel_rfl) : WH P n ops Q S (fuel + 1) listed f w := by
 intro a ha
 refine wpAnyH_all hr (by simp) fun j hj => ?_
 obtain rfl : j = i := by simpa using hj
 exact WH.op j hi h a ha
/-- two that may come up now -/
theorem WH.br2 (i : Nat) {o : Oper} (hi : ops[i]? = some o) (k : Nat) {o2 : Oper} (hk : ops[k]? = some o2) (h : WL P n ops (nx (fun f' w' => S w' ∧ WH P n ops Q S fuel (listed.setIfInBounds i true) f' w') Q) [o] f w)
    (h2 : WL P n ops (nx (fun f' w' => S w' ∧ WH P n ops Q S fuel (listed.setIfInBounds k true) f' w') Q) [o2] f w) (hr : Region.ready .any ops listed = [i, k] := by kernel_rfl) : WH P n ops Q S (fuel + 1) listed f w := by
  intro a ha
  refine wpAnyH_all hr (by simp) fun j hj => ?_
  rcases List.mem_cons.1 hj with rfl | hj
  · exact WH.op j hi h a ha
  · obtain rfl : j = k := by simpa using hj
    exact WH.op j hk h2 a ha
theorem WH.done (hr : Region.ready .any ops listed = []) (h : Q .normal f w) : WH P n ops Q S fuel listed f w := fun _ ha => wpAnyH_done hr ⟨f, ha, h⟩ fuel
end
attribute [irreducible] WH
end
section
/-- digits behind the point, at most so many -/
def fracK : Nat → Nat → List UInt8
 | 0, _ => []
 | k + 1, f => if f = 0 then [] else ch (48 + ((f * 10 / 65536 : Nat) : Int)) :: fracK k (f * 10 % 65536)
theorem fracK_stable (k : Nat) : ∀ f : Nat, k ≤ 16 → f < 65536 → 2 ^ (16 - k) ∣ f → fracK k f = fracK (k + 1) f := by
  induction k with
  | zero =>
    intro f _ hf hd
    obtain ⟨c, hc⟩ := hd
    have : f = 0 := by simp at hc; omega
    simp [fracK, this]
  | succ k ih =>
    intro f hk hf hd
    rw [fracK, fracK]
    split
    · rfl
    · rw [ih (f * 10 % 65536) oO oO]
      have e : 16 - k = (16 - (k + 1)) + 1 := by omega
      have h1 : 2 ^ (16 - k) ∣ f * 10 := by
        rw [e, Nat.pow_succ]
        exact Nat.mul_dvd_mul hd ⟨5, rfl⟩
      have h2 : 2 ^ (16 - k) ∣ 65536 := by
        rw [show (65536 : Nat) = 2 ^ 16 from rfl]
        exact Nat.pow_dvd_pow 2 oO
      exact (Nat.dvd_mod_iff h2).2 h1
def fracL (f : Nat) : List UInt8 := fracK 16 f
theorem fracL_zero : fracL 0 = [] := rfl
theorem fracL_step (f : Nat) (h0 : 0 < f) (h : f < 65536) : fracL f = ch (48 + ((f * 10 / 65536 : Nat) : Int)) :: fracL (f * 10 % 65536) := by
 unfold fracL
 rw [fracK, if_neg oO, fracK_stable 15 (f * 10 % 65536) oO oO (by
  have h1 : 2 ^ (16 - 15) ∣ f * 10 := ⟨f * 5, by omega⟩
  exact (Nat.dvd_mod_iff dD).2 h1)]
theorem fracK_len (k : Nat) : ∀ f, (fracK k f).length ≤ k := by
 induction k with
 | zero => intro f; simp [fracK]
 | succ k ih =>
  intro f; rw [fracK]; split
  ·
   simp
  ·
   have := ih (f * 10 % 65536); simp; omega
theorem fracL_len (f : Nat) : (fracL f).length ≤ 16 := fracK_len 16 f
theorem and_mask16 (x : Int) (h : 0 ≤ x) (h' : x < 4294967296) : bits .and .i64 x 65535 = x % 65536 :=
 bits_mask .i64 32 dD (fun n h1 h2 => by rw [IntKind.wrap_i64]; omega) 16 dD x h (by simpa using h')
end
end Go.Proofs.YtjghbcjnplcleaaGreatDoor
namespace Go.Proofs
open Go.Proofs.Tryz
open Go.Shelf
def Tryz.lays169_ren : Go.Shelf.Ren := ⟨fun | 169 => 88 | n => n, fun | 70 => 111 | 9 => 9 | 0 => 0 | 72 => 113 | 37 => 22 | 127 => 160 | 3 => 3 | 5 => 5 | n => n, fun | n => n⟩
theorem Tryz.lays169 : Go.Proofs.Lays.n169 Tryz.prog Tryz.lays169_ren := {
  mixed := by kernel_rfl
  f169 := Tryz.func88.trans (congrArg some (by kernel_rfl))
  t0 := Tryz.underlying0
  a0 := Tryz.isAgg0
  z0 := Tryz.sizeOf0
  v0 := Tryz.zeroValue0
  t3 := Tryz.underlying3
  a3 := Tryz.isAgg3
  z3 := Tryz.sizeOf3
  v3 := Tryz.zeroValue3
  t9 := Tryz.underlying9
  a9 := Tryz.isAgg9
  z9 := Tryz.sizeOf9
  v9 := Tryz.zeroValue9
  t37 := Tryz.underlying22
  a37 := Tryz.isAgg22
  z37 := Tryz.sizeOf22
  v37 := Tryz.zeroValue22
  t70 := Tryz.underlying111
  a70 := Tryz.isAgg111
  z70 := Tryz.sizeOf111
  v70 := Tryz.zeroValue111
  t72 := Tryz.underlying113
  a72 := Tryz.isAgg113
  z72 := Tryz.sizeOf113
  v72 := Tryz.zeroValue113
  t127 := Tryz.underlying160
  a127 := Tryz.isAgg160
  z127 := Tryz.sizeOf160
  v127 := Tryz.zeroValue160 }
theorem Tryz.Builder_Extra_169 : Builder.Extra Tryz.prog Tryz.lays169_ren := {
  sizeBuilder := by kernel_rfl
  liesBuilder := by kernel_rfl
  t5 := Tryz.underlying5
  a5 := Tryz.isAgg5
  z5 := Tryz.sizeOf5
  v5 := Tryz.zeroValue5
  infoByte := by kernel_rfl
  cellsByte := by kernel_rfl
  sizeByte := by kernel_rfl
  neB5 := by decide }
open Go.RowKit in
theorem Tryz.Builder_String_any (B b : Nat) (l : List UInt8) (w : World) (h : Lib.IsBuilder 113 5 B b (Lib.byteCells l) w) (hBw : B ≤ w.heap.size) :
    Calls Tryz.prog 88 #[.pointer (some ⟨b, 0, none⟩)] w fun e w' => e = .returned (.string ⟨l.toArray⟩) ∧ Below B w w' := Any.Builder_String_any Tryz.lays169 Tryz.Builder_Extra_169 B b l w h hBw
def Tryz.lays161_ren : Go.Shelf.Ren := ⟨fun | 161 => 210 | 231 => 166 | 227 => 168 | 233 => 169 | 235 => 171 | 228 => 215 | 197 => 184 | 151 => 217 | 260 => 222 | 152 => 213 | 137 => 60 | 119 => 242 | 224 => 224 | 225 => 223 | 217 => 103 | 266 => 148 | n => n, fun | 9 => 9 | 4 => 4 | 3 => 3 | 5 => 5 | 117 => 202 | 116 => 201 | 0 => 0 | 124 => 205 | 105 => 216 | 21 => 21 | 119 => 249 | 46 => 139 | 139 => 252 | 138 => 251 | n => n, fun | 3 => 2 | 4 => 3 | n => n⟩
theorem Tryz.lays161 : Go.Proofs.Lays.n161 Tryz.prog Tryz.lays161_ren := {
  mixed := by kernel_rfl
  f119 := Tryz.func242.trans (congrArg some (by kernel_rfl))
  f137 := Tryz.func60.trans (congrArg some (by kernel_rfl))
  f151 := Tryz.func217.trans (congrArg some (by kernel_rfl))
  f152 := Tryz.func213.trans (congrArg some (by kernel_rfl))
  f161 := Tryz.func210.trans (congrArg some (by kernel_rfl))
  f197 := Tryz.func184.trans (congrArg some (by kernel_rfl))
  f217 := Tryz.func103.trans (congrArg some (by kernel_rfl))
  f224 := Tryz.func224.trans (congrArg some (by kernel_rfl))
  f225 := Tryz.func223.trans (congrArg some (by kernel_rfl))
  f227 := Tryz.func168.trans (congrArg some (by kernel_rfl))
  f228 := Tryz.func215.trans (congrArg some (by kernel_rfl))
  f231 := Tryz.func166.trans (congrArg some (by kernel_rfl))
  f233 := Tryz.func169.trans (congrArg some (by kernel_rfl))
  f235 := Tryz.func171.trans (congrArg some (by kernel_rfl))
  f260 := Tryz.func222.trans (congrArg some (by kernel_rfl))
  f266 := Tryz.func148.trans (congrArg some (by kernel_rfl))
  t0 := Tryz.underlying0
  a0 := Tryz.isAgg0
  z0 := Tryz.sizeOf0
  v0 := Tryz.zeroValue0
  t3 := Tryz.underlying3
  a3 := Tryz.isAgg3
  z3 := Tryz.sizeOf3
  v3 := Tryz.zeroValue3
  t4 := Tryz.underlying4
  a4 := Tryz.isAgg4
  z4 := Tryz.sizeOf4
  v4 := Tryz.zeroValue4
  t5 := Tryz.underlying5
  a5 := Tryz.isAgg5
  z5 := Tryz.sizeOf5
  v5 := Tryz.zeroValue5
  t9 := Tryz.underlying9
  a9 := Tryz.isAgg9
  z9 := Tryz.sizeOf9
  v9 := Tryz.zeroValue9
  t21 := Tryz.underlying21
  a21 := Tryz.isAgg21
  z21 := Tryz.sizeOf21
  v21 := Tryz.zeroValue21
  t46 := Tryz.underlying139
  a46 := Tryz.isAgg139
  z46 := Tryz.sizeOf139
  v46 := Tryz.zeroValue139
  t105 := Tryz.underlying216
  a105 := Tryz.isAgg216
  z105 := Tryz.sizeOf216
  v105 := Tryz.zeroValue216
  t116 := Tryz.underlying201
  a116 := Tryz.isAgg201
  z116 := Tryz.sizeOf201
  t117 := Tryz.underlying202
  a117 := Tryz.isAgg202
  z117 := Tryz.sizeOf202
  v117 := Tryz.zeroValue202
  t119 := Tryz.underlying249
  a119 := Tryz.isAgg249
  z119 := Tryz.sizeOf249
  t124 := Tryz.underlying205
  a124 := Tryz.isAgg205
  z124 := Tryz.sizeOf205
  v124 := Tryz.zeroValue205
  t138 := Tryz.underlying251
  a138 := Tryz.isAgg251
  z138 := Tryz.sizeOf251
  v138 := Tryz.zeroValue251
  t139 := Tryz.underlying252
  a139 := Tryz.isAgg252
  z139 := Tryz.sizeOf252
  v139 := Tryz.zeroValue252
  g3 := by kernel_rfl
  g4 := by kernel_rfl }
open Go.RowKit in
theorem Tryz.strings_TrimLeft_one (s : ByteArray) (c : UInt8) (hc : c.toNat < 128) (w : World) :
    Calls Tryz.prog 210 #[.string s, .string ⟨#[c]⟩] w fun e w' => e = .returned (.string ⟨(Lib.trimLeftB s.data.toList c).toArray⟩) ∧ w' = w := Any.strings_TrimLeft_one Tryz.lays161 s c hc w
def Tryz.lays160_ren : Go.Shelf.Ren := ⟨fun | 160 => 116 | 232 => 167 | 231 => 166 | 227 => 168 | 234 => 170 | 233 => 169 | 236 => 172 | 235 => 171 | 228 => 215 | 271 => 218 | 151 => 217 | 197 => 184 | 120 => 246 | 152 => 213 | 260 => 222 | 137 => 60 | 119 => 242 | 224 => 224 | 225 => 223 | 217 => 103 | 266 => 148 | n => n, fun | 9 => 9 | 4 => 4 | 3 => 3 | 5 => 5 | 117 => 202 | 116 => 201 | 0 => 0 | 124 => 205 | 21 => 21 | 105 => 216 | 46 => 139 | 119 => 249 | 139 => 252 | 138 => 251 | n => n, fun | 3 => 2 | 4 => 3 | n => n⟩
theorem Tryz.lays160 : Go.Proofs.Lays.n160 Tryz.prog Tryz.lays160_ren := {
  mixed := by kernel_rfl
  f119 := Tryz.func242.trans (congrArg some (by kernel_rfl))
  f120 := Tryz.func246.trans (congrArg some (by kernel_rfl))
  f137 := Tryz.func60.trans (congrArg some (by kernel_rfl))
  f151 := Tryz.func217.trans (congrArg some (by kernel_rfl))
  f152 := Tryz.func213.trans (congrArg some (by kernel_rfl))
  f160 := Tryz.func116.trans (congrArg some (by kernel_rfl))
  f197 := Tryz.func184.trans (congrArg some (by kernel_rfl))
  f217 := Tryz.func103.trans (congrArg some (by kernel_rfl))
  f224 := Tryz.func224.trans (congrArg some (by kernel_rfl))
  f225 := Tryz.func223.trans (congrArg some (by kernel_rfl))
  f227 := Tryz.func168.trans (congrArg some (by kernel_rfl))
  f228 := Tryz.func215.trans (congrArg some (by kernel_rfl))
  f231 := Tryz.func166.trans (congrArg some (by kernel_rfl))
  f232 := Tryz.func167.trans (congrArg some (by kernel_rfl))
  f233 := Tryz.func169.trans (congrArg some (by kernel_rfl))
  f234 := Tryz.func170.trans (congrArg some (by kernel_rfl))
  f235 := Tryz.func171.trans (congrArg some (by kernel_rfl))
  f236 := Tryz.func172.trans (congrArg some (by kernel_rfl))
  f260 := Tryz.func222.trans (congrArg some (by kernel_rfl))
  f266 := Tryz.func148.trans (congrArg some (by kernel_rfl))
  f271 := Tryz.func218.trans (congrArg some (by kernel_rfl))
  t0 := Tryz.underlying0
  a0 := Tryz.isAgg0
  z0 := Tryz.sizeOf0
  v0 := Tryz.zeroValue0
  t3 := Tryz.underlying3
  a3 := Tryz.isAgg3
  z3 := Tryz.sizeOf3
  v3 := Tryz.zeroValue3
  t4 := Tryz.underlying4
  a4 := Tryz.isAgg4
  z4 := Tryz.sizeOf4
  v4 := Tryz.zeroValue4
  t5 := Tryz.underlying5
  a5 := Tryz.isAgg5
  z5 := Tryz.sizeOf5
  v5 := Tryz.zeroValue5
  t9 := Tryz.underlying9
  a9 := Tryz.isAgg9
  z9 := Tryz.sizeOf9
  v9 := Tryz.zeroValue9
  t21 := Tryz.underlying21
  a21 := Tryz.isAgg21
  z21 := Tryz.sizeOf21
  v21 := Tryz.zeroValue21
  t46 := Tryz.underlying139
  a46 := Tryz.isAgg139
  z46 := Tryz.sizeOf139
  v46 := Tryz.zeroValue139
  t105 := Tryz.underlying216
  a105 := Tryz.isAgg216
  z105 := Tryz.sizeOf216
  v105 := Tryz.zeroValue216
  t116 := Tryz.underlying201
  a116 := Tryz.isAgg201
  z116 := Tryz.sizeOf201
  t117 := Tryz.underlying202
  a117 := Tryz.isAgg202
  z117 := Tryz.sizeOf202
  v117 := Tryz.zeroValue202
  t119 := Tryz.underlying249
  a119 := Tryz.isAgg249
  z119 := Tryz.sizeOf249
  t124 := Tryz.underlying205
  a124 := Tryz.isAgg205
  z124 := Tryz.sizeOf205
  v124 := Tryz.zeroValue205
  t138 := Tryz.underlying251
  a138 := Tryz.isAgg251
  z138 := Tryz.sizeOf251
  v138 := Tryz.zeroValue251
  t139 := Tryz.underlying252
  a139 := Tryz.isAgg252
  z139 := Tryz.sizeOf252
  v139 := Tryz.zeroValue252
  g3 := by kernel_rfl
  g4 := by kernel_rfl }
def Tryz.lays243_ren : Go.Shelf.Ren := ⟨fun | 243 => 221 | 246 => 247 | 283 => 261 | 284 => 262 | 285 => 263 | 286 => 264 | 129 => 269 | 317 => 268 | 318 => 270 | 319 => 271 | 320 => 272 | 337 => 273 | 338 => 274 | n => n, fun | 3 => 3 | 9 => 9 | 2 => 2 | 4 => 4 | 171 => 266 | 0 => 0 | 53 => 100 | 37 => 22 | 5 => 5 | 173 => 269 | 212 => 276 | 51 => 253 | 20 => 20 | 213 => 277 | 46 => 139 | 232 => 283 | 233 => 284 | n => n, fun | 17 => 6 | 18 => 7 | 19 => 8 | n => n⟩
theorem Tryz.lays243 : Go.Proofs.Lays.n243 Tryz.prog Tryz.lays243_ren := {
  mixed := by kernel_rfl
  f129 := Tryz.func269.trans (congrArg some (by kernel_rfl))
  f243 := Tryz.func221.trans (congrArg some (by kernel_rfl))
  f246 := Tryz.func247.trans (congrArg some (by kernel_rfl))
  f283 := Tryz.func261.trans (congrArg some (by kernel_rfl))
  f284 := Tryz.func262.trans (congrArg some (by kernel_rfl))
  f285 := Tryz.func263.trans (congrArg some (by kernel_rfl))
  f286 := Tryz.func264.trans (congrArg some (by kernel_rfl))
  f317 := Tryz.func268.trans (congrArg some (by kernel_rfl))
  f318 := Tryz.func270.trans (congrArg some (by kernel_rfl))
  f319 := Tryz.func271.trans (congrArg some (by kernel_rfl))
  f320 := Tryz.func272.trans (congrArg some (by kernel_rfl))
  f337 := Tryz.func273.trans (congrArg some (by kernel_rfl))
  f338 := Tryz.func274.trans (congrArg some (by kernel_rfl))
  t0 := Tryz.underlying0
  a0 := Tryz.isAgg0
  z0 := Tryz.sizeOf0
  v0 := Tryz.zeroValue0
  t2 := Tryz.underlying2
  a2 := Tryz.isAgg2
  z2 := Tryz.sizeOf2
  v2 := Tryz.zeroValue2
  t3 := Tryz.underlying3
  a3 := Tryz.isAgg3
  z3 := Tryz.sizeOf3
  v3 := Tryz.zeroValue3
  t4 := Tryz.underlying4
  a4 := Tryz.isAgg4
  z4 := Tryz.sizeOf4
  v4 := Tryz.zeroValue4
  t5 := Tryz.underlying5
  a5 := Tryz.isAgg5
  z5 := Tryz.sizeOf5
  v5 := Tryz.zeroValue5
  t9 := Tryz.underlying9
  a9 := Tryz.isAgg9
  z9 := Tryz.sizeOf9
  v9 := Tryz.zeroValue9
  t20 := Tryz.underlying20
  a20 := Tryz.isAgg20
  z20 := Tryz.sizeOf20
  v20 := Tryz.zeroValue20
  t37 := Tryz.underlying22
  a37 := Tryz.isAgg22
  z37 := Tryz.sizeOf22
  v37 := Tryz.zeroValue22
  t46 := Tryz.underlying139
  a46 := Tryz.isAgg139
  z46 := Tryz.sizeOf139
  v46 := Tryz.zeroValue139
  t51 := Tryz.underlying253
  a51 := Tryz.isAgg253
  z51 := Tryz.sizeOf253
  v51 := Tryz.zeroValue253
  t53 := Tryz.underlying100
  a53 := Tryz.isAgg100
  z53 := Tryz.sizeOf100
  v53 := Tryz.zeroValue100
  t171 := Tryz.underlying266
  a171 := Tryz.isAgg266
  z171 := Tryz.sizeOf266
  v171 := Tryz.zeroValue266
  t173 := Tryz.underlying269
  a173 := Tryz.isAgg269
  z173 := Tryz.sizeOf269
  v173 := Tryz.zeroValue269
  t212 := Tryz.underlying276
  a212 := Tryz.isAgg276
  z212 := Tryz.sizeOf276
  v212 := Tryz.zeroValue276
  t213 := Tryz.underlying277
  a213 := Tryz.isAgg277
  z213 := Tryz.sizeOf277
  t232 := Tryz.underlying283
  a232 := Tryz.isAgg283
  z232 := Tryz.sizeOf283
  v232 := Tryz.zeroValue283
  t233 := Tryz.underlying284
  a233 := Tryz.isAgg284
  z233 := Tryz.sizeOf284
  v233 := Tryz.zeroValue284
  g17 := by kernel_rfl
  g18 := by kernel_rfl
  g19 := by kernel_rfl }
open Go.RowKit Go.Sort Go.Lib in
theorem Tryz.internal_strconv_Itoa_small (i : Nat) (hi : i < 100) (w : World) :
    Calls Tryz.prog 221 #[.int .i64 i] w fun e w' => e = .returned (.string ⟨(Lib.decDigits i).toArray⟩) ∧ w' = w := Any.internal_strconv_Itoa_small Tryz.lays243 i hi w
def Tryz.laysM171_ren : Go.Shelf.Ren := ⟨fun | 171 => 179 | 243 => 221 | 246 => 247 | 283 => 261 | 284 => 262 | 285 => 263 | 286 => 264 | 129 => 269 | 317 => 268 | 318 => 270 | 319 => 271 | 320 => 272 | 337 => 273 | 338 => 274 | n => n, fun | 3 => 3 | 9 => 9 | 2 => 2 | 4 => 4 | 171 => 266 | 0 => 0 | 53 => 100 | 37 => 22 | 5 => 5 | 173 => 269 | 212 => 276 | 51 => 253 | 20 => 20 | 213 => 277 | 46 => 139 | 232 => 283 | 233 => 284 | n => n, fun | 17 => 6 | 18 => 7 | 19 => 8 | n => n⟩
theorem Tryz.laysM171 : Go.Proofs.LaysM.n171 Tryz.prog Tryz.laysM171_ren := {
  mixed := by kernel_rfl
  f129 := Tryz.func269.trans (congrArg some (by kernel_rfl))
  f171 := Tryz.func179.trans (congrArg some (by kernel_rfl))
  f243 := Tryz.func221.trans (congrArg some (by kernel_rfl))
  f246 := Tryz.func247.trans (congrArg some (by kernel_rfl))
  f283 := Tryz.func261.trans (congrArg some (by kernel_rfl))
  f284 := Tryz.func262.trans (congrArg some (by kernel_rfl))
  f285 := Tryz.func263.trans (congrArg some (by kernel_rfl))
  f286 := Tryz.func264.trans (congrArg some (by kernel_rfl))
  f317 := Tryz.func268.trans (congrArg some (by kernel_rfl))
  f318 := Tryz.func270.trans (congrArg some (by kernel_rfl))
  f319 := Tryz.func271.trans (congrArg some (by kernel_rfl))
  f320 := Tryz.func272.trans (congrArg some (by kernel_rfl))
  f337 := Tryz.func273.trans (congrArg some (by kernel_rfl))
  f338 := Tryz.func274.trans (congrArg some (by kernel_rfl))
  t0 := Tryz.underlying0
  a0 := Tryz.isAgg0
  z0 := Tryz.sizeOf0
  v0 := Tryz.zeroValue0
  t2 := Tryz.underlying2
  a2 := Tryz.isAgg2
  z2 := Tryz.sizeOf2
  v2 := Tryz.zeroValue2
  t3 := Tryz.underlying3
  a3 := Tryz.isAgg3
  z3 := Tryz.sizeOf3
  v3 := Tryz.zeroValue3
  t4 := Tryz.underlying4
  a4 := Tryz.isAgg4
  z4 := Tryz.sizeOf4
  v4 := Tryz.zeroValue4
  t5 := Tryz.underlying5
  a5 := Tryz.isAgg5
  z5 := Tryz.sizeOf5
  v5 := Tryz.zeroValue5
  t9 := Tryz.underlying9
  a9 := Tryz.isAgg9
  z9 := Tryz.sizeOf9
  v9 := Tryz.zeroValue9
  t20 := Tryz.underlying20
  a20 := Tryz.isAgg20
  z20 := Tryz.sizeOf20
  v20 := Tryz.zeroValue20
  t37 := Tryz.underlying22
  a37 := Tryz.isAgg22
  z37 := Tryz.sizeOf22
  v37 := Tryz.zeroValue22
  t46 := Tryz.underlying139
  a46 := Tryz.isAgg139
  z46 := Tryz.sizeOf139
  v46 := Tryz.zeroValue139
  t51 := Tryz.underlying253
  a51 := Tryz.isAgg253
  z51 := Tryz.sizeOf253
  v51 := Tryz.zeroValue253
  t53 := Tryz.underlying100
  a53 := Tryz.isAgg100
  z53 := Tryz.sizeOf100
  v53 := Tryz.zeroValue100
  t171 := Tryz.underlying266
  a171 := Tryz.isAgg266
  z171 := Tryz.sizeOf266
  v171 := Tryz.zeroValue266
  t173 := Tryz.underlying269
  a173 := Tryz.isAgg269
  z173 := Tryz.sizeOf269
  v173 := Tryz.zeroValue269
  t212 := Tryz.underlying276
  a212 := Tryz.isAgg276
  z212 := Tryz.sizeOf276
  v212 := Tryz.zeroValue276
  t213 := Tryz.underlying277
  a213 := Tryz.isAgg277
  z213 := Tryz.sizeOf277
  t232 := Tryz.underlying283
  a232 := Tryz.isAgg283
  z232 := Tryz.sizeOf283
  v232 := Tryz.zeroValue283
  t233 := Tryz.underlying284
  a233 := Tryz.isAgg284
  z233 := Tryz.sizeOf284
  v233 := Tryz.zeroValue284
  g17 := by kernel_rfl
  g18 := by kernel_rfl
  g19 := by kernel_rfl
  i0 := by kernel_rfl
  i2 := by kernel_rfl
  i3 := by kernel_rfl
  i4 := by kernel_rfl
  i5 := by kernel_rfl
  i9 := by kernel_rfl
  i20 := by kernel_rfl
  i37 := by kernel_rfl
  i46 := by kernel_rfl
  i51 := by kernel_rfl
  i53 := by kernel_rfl
  i171 := by kernel_rfl
  i173 := by kernel_rfl
  i212 := by kernel_rfl
  i232 := by kernel_rfl
  i233 := by kernel_rfl
  m17 := by kernel_rfl
  m18 := by kernel_rfl
  m19 := by kernel_rfl }
open Go.RowKit Go.Sort Go.Lib in
theorem Tryz.strconv_Itoa (n : Int) (h0 : -9223372036854775808 ≤ n) (h1 : n ≤ 9223372036854775807) (w : World) (htab : Lib.TabIs Tryz.prog w "internal/strconv.uint64pow10" .u64 Lib.pow10Tab) :
    Calls Tryz.prog 179 #[.int .i64 n] w fun e w' => e = .returned (.string ⟨(Lib.itoa n).toArray⟩) ∧ ∃ k os, w' = grow (w.drewN k) os := Any.strconv_Itoa Tryz.laysM171 n h0 h1 w htab
def Tryz.laysC172_ren : Go.Shelf.Ren := ⟨fun | 172 => 187 | 244 => 226 | 245 => 227 | 247 => 249 | 279 => 250 | 280 => 251 | 281 => 252 | 282 => 253 | 287 => 229 | 316 => 265 | 171 => 179 | 205 => 266 | 321 => 255 | 322 => 256 | 243 => 221 | 246 => 247 | 283 => 261 | 284 => 262 | 285 => 263 | 286 => 264 | 129 => 269 | 317 => 268 | 318 => 270 | 319 => 271 | 320 => 272 | 337 => 273 | 338 => 274 | n => n, fun | 9 => 9 | 3 => 3 | 75 => 117 | 76 => 118 | 4 => 4 | 5 => 5 | 167 => 256 | 37 => 22 | 0 => 0 | 85 => 257 | 2 => 2 | 168 => 259 | 53 => 100 | 175 => 220 | 46 => 139 | 210 => 272 | 127 => 160 | 145 => 281 | 143 => 279 | 21 => 21 | 171 => 266 | 173 => 269 | 212 => 276 | 51 => 253 | 20 => 20 | 213 => 277 | 232 => 283 | 233 => 284 | 80 => 103 | n => n, fun | 15 => 4 | 16 => 5 | 17 => 6 | 18 => 7 | 19 => 8 | n => n⟩
theorem Tryz.laysC172 : Go.Proofs.LaysC.n172 Tryz.prog Tryz.laysC172_ren := {
  mixed := by kernel_rfl
  f129 := Tryz.func269.trans (congrArg some (by kernel_rfl))
  f171 := Tryz.func179.trans (congrArg some (by kernel_rfl))
  f172 := Tryz.func187.trans (congrArg some (by kernel_rfl))
  f205 := Tryz.func266.trans (congrArg some (by kernel_rfl))
  f243 := Tryz.func221.trans (congrArg some (by kernel_rfl))
  f244 := Tryz.func226.trans (congrArg some (by kernel_rfl))
  f245 := Tryz.func227.trans (congrArg some (by kernel_rfl))
  f246 := Tryz.func247.trans (congrArg some (by kernel_rfl))
  f247 := Tryz.func249.trans (congrArg some (by kernel_rfl))
  f279 := Tryz.func250.trans (congrArg some (by kernel_rfl))
  f280 := Tryz.func251.trans (congrArg some (by kernel_rfl))
  f281 := Tryz.func252.trans (congrArg some (by kernel_rfl))
  f282 := Tryz.func253.trans (congrArg some (by kernel_rfl))
  f283 := Tryz.func261.trans (congrArg some (by kernel_rfl))
  f284 := Tryz.func262.trans (congrArg some (by kernel_rfl))
  f285 := Tryz.func263.trans (congrArg some (by kernel_rfl))
  f286 := Tryz.func264.trans (congrArg some (by kernel_rfl))
  f287 := Tryz.func229.trans (congrArg some (by kernel_rfl))
  f316 := Tryz.func265.trans (congrArg some (by kernel_rfl))
  f317 := Tryz.func268.trans (congrArg some (by kernel_rfl))
  f318 := Tryz.func270.trans (congrArg some (by kernel_rfl))
  f319 := Tryz.func271.trans (congrArg some (by kernel_rfl))
  f320 := Tryz.func272.trans (congrArg some (by kernel_rfl))
  f321 := Tryz.func255.trans (congrArg some (by kernel_rfl))
  f322 := Tryz.func256.trans (congrArg some (by kernel_rfl))
  f337 := Tryz.func273.trans (congrArg some (by kernel_rfl))
  f338 := Tryz.func274.trans (congrArg some (by kernel_rfl))
  t0 := Tryz.underlying0
  a0 := Tryz.isAgg0
  z0 := Tryz.sizeOf0
  v0 := Tryz.zeroValue0
  t2 := Tryz.underlying2
  a2 := Tryz.isAgg2
  z2 := Tryz.sizeOf2
  v2 := Tryz.zeroValue2
  t3 := Tryz.underlying3
  a3 := Tryz.isAgg3
  z3 := Tryz.sizeOf3
  v3 := Tryz.zeroValue3
  t4 := Tryz.underlying4
  a4 := Tryz.isAgg4
  z4 := Tryz.sizeOf4
  v4 := Tryz.zeroValue4
  t5 := Tryz.underlying5
  a5 := Tryz.isAgg5
  z5 := Tryz.sizeOf5
  v5 := Tryz.zeroValue5
  t9 := Tryz.underlying9
  a9 := Tryz.isAgg9
  z9 := Tryz.sizeOf9
  v9 := Tryz.zeroValue9
  t20 := Tryz.underlying20
  a20 := Tryz.isAgg20
  z20 := Tryz.sizeOf20
  v20 := Tryz.zeroValue20
  t21 := Tryz.underlying21
  a21 := Tryz.isAgg21
  z21 := Tryz.sizeOf21
  v21 := Tryz.zeroValue21
  t37 := Tryz.underlying22
  a37 := Tryz.isAgg22
  z37 := Tryz.sizeOf22
  v37 := Tryz.zeroValue22
  t46 := Tryz.underlying139
  a46 := Tryz.isAgg139
  z46 := Tryz.sizeOf139
  v46 := Tryz.zeroValue139
  t51 := Tryz.underlying253
  a51 := Tryz.isAgg253
  z51 := Tryz.sizeOf253
  v51 := Tryz.zeroValue253
  t53 := Tryz.underlying100
  a53 := Tryz.isAgg100
  z53 := Tryz.sizeOf100
  v53 := Tryz.zeroValue100
  t75 := Tryz.underlying117
  a75 := Tryz.isAgg117
  z75 := Tryz.sizeOf117
  v75 := Tryz.zeroValue117
  t76 := Tryz.underlying118
  a76 := Tryz.isAgg118
  z76 := Tryz.sizeOf118
  v76 := Tryz.zeroValue118
  t85 := Tryz.underlying257
  a85 := Tryz.isAgg257
  z85 := Tryz.sizeOf257
  v85 := Tryz.zeroValue257
  t127 := Tryz.underlying160
  a127 := Tryz.isAgg160
  z127 := Tryz.sizeOf160
  v127 := Tryz.zeroValue160
  t143 := Tryz.underlying279
  a143 := Tryz.isAgg279
  z143 := Tryz.sizeOf279
  v143 := Tryz.zeroValue279
  t145 := Tryz.underlying281
  a145 := Tryz.isAgg281
  z145 := Tryz.sizeOf281
  v145 := Tryz.zeroValue281
  t167 := Tryz.underlying256
  a167 := Tryz.isAgg256
  z167 := Tryz.sizeOf256
  v167 := Tryz.zeroValue256
  t168 := Tryz.underlying259
  a168 := Tryz.isAgg259
  z168 := Tryz.sizeOf259
  v168 := Tryz.zeroValue259
  t171 := Tryz.underlying266
  a171 := Tryz.isAgg266
  z171 := Tryz.sizeOf266
  v171 := Tryz.zeroValue266
  t173 := Tryz.underlying269
  a173 := Tryz.isAgg269
  z173 := Tryz.sizeOf269
  v173 := Tryz.zeroValue269
  t175 := Tryz.underlying220
  a175 := Tryz.isAgg220
  z175 := Tryz.sizeOf220
  v175 := Tryz.zeroValue220
  t210 := Tryz.underlying272
  a210 := Tryz.isAgg272
  z210 := Tryz.sizeOf272
  v210 := Tryz.zeroValue272
  t212 := Tryz.underlying276
  a212 := Tryz.isAgg276
  z212 := Tryz.sizeOf276
  v212 := Tryz.zeroValue276
  t213 := Tryz.underlying277
  a213 := Tryz.isAgg277
  z213 := Tryz.sizeOf277
  t232 := Tryz.underlying283
  a232 := Tryz.isAgg283
  z232 := Tryz.sizeOf283
  v232 := Tryz.zeroValue283
  t233 := Tryz.underlying284
  a233 := Tryz.isAgg284
  z233 := Tryz.sizeOf284
  v233 := Tryz.zeroValue284
  g15 := by kernel_rfl
  g16 := by kernel_rfl
  g17 := by kernel_rfl
  g18 := by kernel_rfl
  g19 := by kernel_rfl
  t80 := Tryz.underlying103
  a80 := Tryz.isAgg103
  z80 := Tryz.sizeOf103
  v80 := Tryz.zeroValue103
  i0 := by kernel_rfl
  i2 := by kernel_rfl
  i3 := by kernel_rfl
  i4 := by kernel_rfl
  i5 := by kernel_rfl
  i9 := by kernel_rfl
  i20 := by kernel_rfl
  i21 := by kernel_rfl
  i37 := by kernel_rfl
  i46 := by kernel_rfl
  i51 := by kernel_rfl
  i53 := by kernel_rfl
  i75 := by kernel_rfl
  i76 := by kernel_rfl
  i80 := by kernel_rfl
  i85 := by kernel_rfl
  i127 := by kernel_rfl
  i143 := by kernel_rfl
  i145 := by kernel_rfl
  i167 := by kernel_rfl
  i168 := by kernel_rfl
  i171 := by kernel_rfl
  i173 := by kernel_rfl
  i175 := by kernel_rfl
  i210 := by kernel_rfl
  i212 := by kernel_rfl
  i232 := by kernel_rfl
  i233 := by kernel_rfl
  m15 := by kernel_rfl
  m16 := by kernel_rfl
  m17 := by kernel_rfl
  m18 := by kernel_rfl
  m19 := by kernel_rfl
  c0 := by kernel_rfl
  c2 := by kernel_rfl
  c3 := by kernel_rfl
  c4 := by kernel_rfl
  c5 := by kernel_rfl
  c9 := by kernel_rfl
  c20 := by kernel_rfl
  c21 := by kernel_rfl
  c37 := by kernel_rfl
  c46 := by kernel_rfl
  c51 := by kernel_rfl
  c53 := by kernel_rfl
  c75 := by kernel_rfl
  c76 := by kernel_rfl
  c80 := by kernel_rfl
  c85 := by kernel_rfl
  c127 := by kernel_rfl
  c143 := by kernel_rfl
  c145 := by kernel_rfl
  c167 := by kernel_rfl
  c168 := by kernel_rfl
  c171 := by kernel_rfl
  c173 := by kernel_rfl
  c175 := by kernel_rfl
  c210 := by kernel_rfl
  c212 := by kernel_rfl
  c213 := by kernel_rfl
  c232 := by kernel_rfl
  c233 := by kernel_rfl }
open Go.RowKit in
theorem Tryz.strconv_Atoi_ok (s : ByteArray) (hmax : s.size ≤ 9223372036854775806) (v : Int) (h : Lib.atoiAll s.data.toList = .ok v) (w : World) :
    Calls Tryz.prog 187 #[.string s] w fun e w' => e = .returned (.tuple #[.int .i64 v, .nilIface]) ∧ (w' = w ∨ ∃ t, w' = Lib.bytesWorld w 5 t) := Any.strconv_Atoi_ok Tryz.laysC172 s hmax v h w
open Go.RowKit in
theorem Tryz.strconv_Atoi_syntax_var (s : ByteArray) (hlim : s.size ≤ 281474976710656) (h : Lib.atoiAll s.data.toList = Lib.atoiAll []) (tp : TypeId) (p : Value) (w : World) (hvar : w.var? Tryz.prog "strconv.ErrSyntax" = some #[.iface tp p]) :
    Calls Tryz.prog 187 #[.string s] w fun e w' => ∃ N, e = .returned (.tuple #[.int .i64 0, .iface 259 (.pointer (some ⟨N, 0, none⟩))]) ∧ w.heap.size ≤ N ∧ w'.heap[N]? = some (.cells #[.string ⟨#[65, 116, 111, 105]⟩, .string s, .iface tp p] 272 (0, 0)) ∧ Below w.heap.size w w' := Any.strconv_Atoi_syntax_var Tryz.laysC172 s hlim h tp p w hvar
open Go.RowKit in
theorem Tryz.strconv_Atoi_range_var (s : ByteArray) (hlim : s.size ≤ 281474976710656) (h : Lib.atoiAll s.data.toList = .range) (tp : TypeId) (p : Value) (w : World) (hvar : w.var? Tryz.prog "strconv.ErrRange" = some #[.iface tp p]) :
    Calls Tryz.prog 187 #[.string s] w fun e w' => ∃ N, e = .returned (.tuple #[.int .i64 (Lib.atoiSat s.data.toList), .iface 259 (.pointer (some ⟨N, 0, none⟩))]) ∧ w.heap.size ≤ N ∧ w'.heap[N]? = some (.cells #[.string ⟨#[65, 116, 111, 105]⟩, .string s, .iface tp p] 272 (0, 0)) ∧ Below w.heap.size w w' := Any.strconv_Atoi_range_var Tryz.laysC172 s hlim h tp p w hvar
def Tryz.lays219_ren : Go.Shelf.Ren := ⟨fun | 219 => 186 | 217 => 103 | 225 => 223 | 224 => 224 | 267 => 225 | 266 => 148 | 314 => 248 | n => n, fun | 9 => 9 | 3 => 3 | 4 => 4 | 5 => 5 | 46 => 139 | 146 => 254 | 51 => 253 | n => n, fun | 1 => 0 | n => n⟩
theorem Tryz.lays219 : Go.Proofs.Lays.n219 Tryz.prog Tryz.lays219_ren := {
  mixed := by kernel_rfl
  f217 := Tryz.func103.trans (congrArg some (by kernel_rfl))
  f219 := Tryz.func186.trans (congrArg some (by kernel_rfl))
  f224 := Tryz.func224.trans (congrArg some (by kernel_rfl))
  f225 := Tryz.func223.trans (congrArg some (by kernel_rfl))
  f266 := Tryz.func148.trans (congrArg some (by kernel_rfl))
  f267 := Tryz.func225.trans (congrArg some (by kernel_rfl))
  f314 := Tryz.func248.trans (congrArg some (by kernel_rfl))
  t3 := Tryz.underlying3
  a3 := Tryz.isAgg3
  z3 := Tryz.sizeOf3
  v3 := Tryz.zeroValue3
  t4 := Tryz.underlying4
  a4 := Tryz.isAgg4
  z4 := Tryz.sizeOf4
  v4 := Tryz.zeroValue4
  t5 := Tryz.underlying5
  a5 := Tryz.isAgg5
  z5 := Tryz.sizeOf5
  v5 := Tryz.zeroValue5
  t9 := Tryz.underlying9
  a9 := Tryz.isAgg9
  z9 := Tryz.sizeOf9
  v9 := Tryz.zeroValue9
  t46 := Tryz.underlying139
  a46 := Tryz.isAgg139
  z46 := Tryz.sizeOf139
  v46 := Tryz.zeroValue139
  t51 := Tryz.underlying253
  a51 := Tryz.isAgg253
  z51 := Tryz.sizeOf253
  v51 := Tryz.zeroValue253
  t146 := Tryz.underlying254
  a146 := Tryz.isAgg254
  z146 := Tryz.sizeOf254
  v146 := Tryz.zeroValue254
  g1 := by kernel_rfl }
open Go.RowKit Go.Lib in
theorem Tryz.stringslite_Index_one (s : ByteArray) (c : UInt8) (w : World) :
    Calls Tryz.prog 186 #[.string s, .string ⟨#[c]⟩] w fun e w' => e = .returned (.int .i64 (Lib.indexByte s.data.toList c)) ∧ w' = w := Any.stringslite_Index_one Tryz.lays219 s c w
def Tryz.lays146_ren : Go.Shelf.Ren := ⟨fun | 146 => 52 | 221 => 91 | 268 => 130 | 138 => 131 | 143 => 132 | 195 => 183 | 197 => 184 | 218 => 185 | 219 => 186 | 260 => 222 | 217 => 103 | 225 => 223 | 224 => 224 | 267 => 225 | 266 => 148 | 314 => 248 | n => n, fun | 9 => 9 | 31 => 28 | 3 => 3 | 4 => 4 | 0 => 0 | 105 => 216 | 21 => 21 | 5 => 5 | 46 => 139 | 119 => 249 | 139 => 252 | 138 => 251 | 146 => 254 | 51 => 253 | n => n, fun | 1 => 0 | 3 => 2 | 4 => 3 | n => n⟩
theorem Tryz.lays146 : Go.Proofs.Lays.n146 Tryz.prog Tryz.lays146_ren := {
  mixed := by kernel_rfl
  f138 := Tryz.func131.trans (congrArg some (by kernel_rfl))
  f143 := Tryz.func132.trans (congrArg some (by kernel_rfl))
  f146 := Tryz.func52.trans (congrArg some (by kernel_rfl))
  f195 := Tryz.func183.trans (congrArg some (by kernel_rfl))
  f197 := Tryz.func184.trans (congrArg some (by kernel_rfl))
  f217 := Tryz.func103.trans (congrArg some (by kernel_rfl))
  f218 := Tryz.func185.trans (congrArg some (by kernel_rfl))
  f219 := Tryz.func186.trans (congrArg some (by kernel_rfl))
  f221 := Tryz.func91.trans (congrArg some (by kernel_rfl))
  f224 := Tryz.func224.trans (congrArg some (by kernel_rfl))
  f225 := Tryz.func223.trans (congrArg some (by kernel_rfl))
  f260 := Tryz.func222.trans (congrArg some (by kernel_rfl))
  f266 := Tryz.func148.trans (congrArg some (by kernel_rfl))
  f267 := Tryz.func225.trans (congrArg some (by kernel_rfl))
  f268 := Tryz.func130.trans (congrArg some (by kernel_rfl))
  f314 := Tryz.func248.trans (congrArg some (by kernel_rfl))
  t0 := Tryz.underlying0
  a0 := Tryz.isAgg0
  z0 := Tryz.sizeOf0
  v0 := Tryz.zeroValue0
  t3 := Tryz.underlying3
  a3 := Tryz.isAgg3
  z3 := Tryz.sizeOf3
  v3 := Tryz.zeroValue3
  t4 := Tryz.underlying4
  a4 := Tryz.isAgg4
  z4 := Tryz.sizeOf4
  v4 := Tryz.zeroValue4
  t5 := Tryz.underlying5
  a5 := Tryz.isAgg5
  z5 := Tryz.sizeOf5
  v5 := Tryz.zeroValue5
  t9 := Tryz.underlying9
  a9 := Tryz.isAgg9
  z9 := Tryz.sizeOf9
  v9 := Tryz.zeroValue9
  t21 := Tryz.underlying21
  a21 := Tryz.isAgg21
  z21 := Tryz.sizeOf21
  v21 := Tryz.zeroValue21
  t31 := Tryz.underlying28
  a31 := Tryz.isAgg28
  z31 := Tryz.sizeOf28
  v31 := Tryz.zeroValue28
  t46 := Tryz.underlying139
  a46 := Tryz.isAgg139
  z46 := Tryz.sizeOf139
  v46 := Tryz.zeroValue139
  t51 := Tryz.underlying253
  a51 := Tryz.isAgg253
  z51 := Tryz.sizeOf253
  v51 := Tryz.zeroValue253
  t105 := Tryz.underlying216
  a105 := Tryz.isAgg216
  z105 := Tryz.sizeOf216
  v105 := Tryz.zeroValue216
  t119 := Tryz.underlying249
  a119 := Tryz.isAgg249
  z119 := Tryz.sizeOf249
  t138 := Tryz.underlying251
  a138 := Tryz.isAgg251
  z138 := Tryz.sizeOf251
  v138 := Tryz.zeroValue251
  t139 := Tryz.underlying252
  a139 := Tryz.isAgg252
  z139 := Tryz.sizeOf252
  v139 := Tryz.zeroValue252
  t146 := Tryz.underlying254
  a146 := Tryz.isAgg254
  z146 := Tryz.sizeOf254
  v146 := Tryz.zeroValue254
  g1 := by kernel_rfl
  g3 := by kernel_rfl
  g4 := by kernel_rfl }
open Go.RowKit Go.Lib in
theorem Tryz.strings_Split (s sep : ByteArray) (m : Int) (w : World) (hs : s.size < 4294967281) (hm : w.cell? ⟨0, 0, none⟩ = some (.int .i64 m)) (h1 : 1 ≤ sep.size) :
    Calls Tryz.prog 52 #[.string s, .string sep] w fun e w' =>
      e = .returned (.slice (some ⟨w.heap.size, 0, none⟩) (Lib.countB s sep + 1) (Lib.countB s sep + 1)) ∧ w' = w.alloc (.cells ((Lib.splitB sep 0 (Lib.countB s sep) s).map Value.string).toArray 9) := Any.strings_Split Tryz.lays146 (by kernel_rfl) s sep m w hs hm h1
end Go.Proofs
namespace Go.Proofs.YtjghbcjnplcleaaGreatDoor
open Go.RowKit
open Go.Proofs.Tryz
section
def bren : Go.Shelf.Ren := ⟨fun | 240 => 119 | 276 => 177 | 167 => 85 | n => n, fun | 0 => 0 | 3 => 3 | 4 => 4 | 5 => 5 | 9 => 9 | 75 => 117 | 80 => 103 | 20 => 20 | 37 => 22 | 70 => 111 | 72 => 113 | 164 => 209 | n => n, fun | n => n⟩
theorem lays167 : Lays.n167 Tryz.prog bren := {
 mixed := by kernel_rfl
 f167 := func85.trans (congrArg some kR)
 f240 := func119.trans (congrArg some kR)
 f276 := func177.trans (congrArg some kR)
 t0 := underlying0
 a0 := isAgg0
 z0 := sizeOf0
 v0 := zeroValue0
 t4 := underlying4
 a4 := isAgg4
 z4 := sizeOf4
 v4 := zeroValue4
 t5 := underlying5
 a5 := isAgg5
 z5 := sizeOf5
 v5 := zeroValue5
 t9 := underlying9
 a9 := isAgg9
 z9 := sizeOf9
 v9 := zeroValue9
 t20 := underlying20
 a20 := isAgg20
 z20 := sizeOf20
 v20 := zeroValue20
 t37 := underlying22
 a37 := isAgg22
 z37 := sizeOf22
 v37 := zeroValue22
 t70 := underlying111
 a70 := isAgg111
 z70 := sizeOf111
 v70 := zeroValue111
 t72 := underlying113
 a72 := isAgg113
 z72 := sizeOf113
 v72 := zeroValue113
 t164 := underlying209
 a164 := isAgg209
 z164 := sizeOf209
 v164 := zeroValue209
 t75 := underlying117
 a75 := isAgg117
 z75 := sizeOf117
 v75 := zeroValue117 }
theorem bextra : Builder.Extra Tryz.prog bren where
 sizeBuilder := by kernel_rfl
 liesBuilder := by kernel_rfl
 t5 := underlying5
 a5 := isAgg5
 z5 := sizeOf5
 v5 := zeroValue5
 infoByte := by kernel_rfl
 cellsByte := by kernel_rfl
 sizeByte := by kernel_rfl
 neB5 := by decide
theorem WriteByte (B b : Nat) (bs : List Value) (c : Int) (w : World) (h : Lib.IsBuilder 113 5 B b bs w) (hlen : bs.length + 1 ≤ 140737488355328) (hBw : B ≤ w.heap.size) :
  Calls Tryz.prog 85 #[.pointer (some ⟨b, 0, none⟩), .int .u8 c] w fun e w' => e = .returned .nilIface ∧ (Lib.BuilderAt 113 5 B b (.pointer (some ⟨b, 0, none⟩)) (bs ++ [.int .u8 c]) w' ∧ Below B w w') :=
 Any.Builder_WriteByte lays167 bextra B b bs c w h hlen hBw
end
section
def signL (n : Int) : List UInt8 := if n < 0 then [45] else []
def wholeL (n : Int) : List UInt8 := digitsL (n.natAbs / 65536)
def restL (n : Int) : List UInt8 := fracL (n.natAbs % 65536)
theorem byteCells_snoc (l : List UInt8) (x : Int) (h : 0 ≤ x) (h' : x < 256) : Lib.byteCells l ++ [.int .u8 x] = Lib.byteCells (l ++ [ch x]) := by
 have : ((ch x).toNat : Int) = x := by
  unfold ch; rw [UInt8.toNat_ofNat']; omega
 simp [Lib.byteCells, this]
theorem byteCells_len (l : List UInt8) : (Lib.byteCells l).length = l.length := by simp [Lib.byteCells]
theorem ret3 {a b c a' b' c' : ByteArray} (h1 : a = a') (h2 : b = b') (h3 : c = c') : Ending.returned (.tuple #[.string a, .string b, .string c]) = Ending.returned (.tuple #[.string a', .string b', .string c']) := by
 rw [h1, h2, h3]
set_option maxHeartbeats 400000 in
theorem dec_parts_neg (n : Int) (w : World) (h : -2147483648 ≤ n) (hn : n < 0) :
    Calls Tryz.prog 178 #[.int .i64 n] w fun e w' => e = .returned (.tuple #[.string (bs (signL n)), .string (bs (wholeL n)), .string (bs (restL n))]) ∧ Below w.heap.size w w' := by
  have hf := fitsB_yes h oO
  have hm := and_mask16 (-n) oO oO
  go_enter func178, ntmps178
  go_wp2_with (go_at_call 195; refine (fix_Fits _ _).mono ?_; rintro e w' ⟨rfl, rfl⟩)
  go_loopw [6] (fun f wr => ∃ (m : Nat) (l : List UInt8), f = .int .i64 m ∧ m < 65536 ∧ Lib.IsBuilder 113 5 w.heap.size w.heap.size (Lib.byteCells l) wr ∧ Below w.heap.size w wr ∧ l.length + (fracL m).length ≤ 16 ∧ restL n = l ++ fracL m) (fun f _ => (fracL (intOf f).toNat).length)
  case atStart => exact ⟨(n.natAbs % 65536), [], by go_num, by omega, Lib.fresh_isBuilder _ _ _, (Below.refl _ _).alloc (Nat.le_refl _) _, by simpa using fracL_len _, rfl⟩
  case round =>
    obtain ⟨m, l, rfl, hm1, hB, hbel, hlen, hrest⟩ := hrel
    have Hrest := hid hrest; clear hrest
    have hsz := hbel.size
    by_cases hm0 : 0 < m
    · have hst := fracL_step m hm0 hm1
      have Hst := hid hst; clear hst
      have hm2 := and_mask16 (m * 10) oO oO
      clear hm
      go_wp2_with (go_at_call 85; go_must (refine (WriteByte _ _ _ _ _ hB (by rw [byteCells_len]; omega) hsz).mono ?_); rintro e w1 ⟨rfl, hB1, hbel1⟩)
      have hc := byteCells_snoc l (48 + (m : Int) * 10 / 65536) oO oO
      rw [hc] at hB1
      have e1 : ((m * 10 / 65536 : Nat) : Int) = (m : Int) * 10 / 65536 := by omega
      have hl2 := congrArg List.length Hst.out
      simp only [List.length_cons] at hl2
      refine ⟨⟨m * 10 % 65536, l ++ [ch (48 + (m : Int) * 10 / 65536)], by go_num, by omega, .inr hB1, hbel.trans hbel1, ?_, ?_⟩, ?_⟩
      · simp; omega
      · rw [Hrest.out, Hst.out, e1]; simp
      · have e2 : ((m : Int) * 10 % 65536).toNat = m * 10 % 65536 := by omega
        have e3 : ((m : Int)).toNat = m := by omega
        simp only [intOf, e2, e3]; omega
    · have hm00 : m = 0 := by omega
      have Hm := hid hm00; clear hm00
      go_wp2_with first | (go_at_call 220; refine (dec_digits (-n / 65536).toNat _ _ oO oO oO).mono ?_; rintro e w' ⟨rfl, rfl⟩) | (go_at_call 88; refine (Tryz.Builder_String_any _ _ _ _ hB hsz).mono ?_; rintro e w1 ⟨rfl, hbel1⟩)
      go_ret3
      have e1 : (-n / 65536).toNat = n.natAbs / 65536 := by omega
      exact ⟨ret3 (by rw [signL, if_pos hn]; rfl) (by rw [e1]; rfl) (by rw [Hrest.out, Hm.out, fracL_zero, List.append_nil]; rfl), hbel.trans hbel1⟩
set_option maxHeartbeats 400000 in
theorem dec_parts_pos (n : Int) (w : World) (h : 0 ≤ n) (hn : n ≤ 2147483647) :
    Calls Tryz.prog 178 #[.int .i64 n] w fun e w' => e = .returned (.tuple #[.string (bs (signL n)), .string (bs (wholeL n)), .string (bs (restL n))]) ∧ Below w.heap.size w w' := by
  have hf := fitsB_yes oO hn
  have hm := and_mask16 n oO oO
  go_enter func178, ntmps178
  go_wp2_with (go_at_call 195; refine (fix_Fits _ _).mono ?_; rintro e w' ⟨rfl, rfl⟩)
  go_loopw [6] (fun f wr => ∃ (m : Nat) (l : List UInt8), f = .int .i64 m ∧ m < 65536 ∧ Lib.IsBuilder 113 5 w.heap.size w.heap.size (Lib.byteCells l) wr ∧ Below w.heap.size w wr ∧ l.length + (fracL m).length ≤ 16 ∧ restL n = l ++ fracL m) (fun f _ => (fracL (intOf f).toNat).length)
  case atStart => exact ⟨(n.natAbs % 65536), [], by go_num, by omega, Lib.fresh_isBuilder _ _ _, (Below.refl _ _).alloc (Nat.le_refl _) _, by simpa using fracL_len _, rfl⟩
  case round =>
    obtain ⟨m, l, rfl, hm1, hB, hbel, hlen, hrest⟩ := hrel
    have Hrest := hid hrest; clear hrest
    have hsz := hbel.size
    by_cases hm0 : 0 < m
    · have hst := fracL_step m hm0 hm1
      have Hst := hid hst; clear hst
      have hm2 := and_mask16 (m * 10) oO oO
      clear hm
      go_wp2_with (go_at_call 85; go_must (refine (WriteByte _ _ _ _ _ hB (by rw [byteCells_len]; omega) hsz).mono ?_); rintro e w1 ⟨rfl, hB1, hbel1⟩)
      have hc := byteCells_snoc l (48 + (m : Int) * 10 / 65536) oO oO
      rw [hc] at hB1
      have e1 : ((m * 10 / 65536 : Nat) : Int) = (m : Int) * 10 / 65536 := by omega
      have hl2 := congrArg List.length Hst.out
      simp only [List.length_cons] at hl2
      refine ⟨⟨m * 10 % 65536, l ++ [ch (48 + (m : Int) * 10 / 65536)], by go_num, by omega, .inr hB1, hbel.trans hbel1, ?_, ?_⟩, ?_⟩
      · simp; omega
      · rw [Hrest.out, Hst.out, e1]; simp
      · have e2 : ((m : Int) * 10 % 65536).toNat = m * 10 % 65536 := by omega
        have e3 : ((m : Int)).toNat = m := by omega
        simp only [intOf, e2, e3]; omega
    · have hm00 : m = 0 := by omega
      have Hm := hid hm00; clear hm00
      go_wp2_with first | (go_at_call 220; refine (dec_digits (n / 65536).toNat _ _ oO oO oO).mono ?_; rintro e w' ⟨rfl, rfl⟩) | (go_at_call 88; refine (Tryz.Builder_String_any _ _ _ _ hB hsz).mono ?_; rintro e w1 ⟨rfl, hbel1⟩)
      go_ret3
      have e1 : (n / 65536).toNat = n.natAbs / 65536 := by omega
      exact ⟨ret3 (by rw [signL, if_neg oO]; rfl) (by rw [e1]; rfl) (by rw [Hrest.out, Hm.out, fracL_zero, List.append_nil]; rfl), hbel.trans hbel1⟩
set_option maxHeartbeats 400000 in
theorem dec_parts_not (n : Int) (w : World) (h : fitsB n = false) :
    Calls Tryz.prog 178 #[.int .i64 n] w fun e w' => e = .returned (.tuple #[.string (bs (signL 0)), .string (bs (wholeL 0)), .string (bs (restL 0))]) ∧ Below w.heap.size w w' := by
  have hf := h
  have hm := and_mask16 0 oO oO
  go_enter func178, ntmps178
  go_wp2_with (go_at_call 195; refine (fix_Fits _ _).mono ?_; rintro e w' ⟨rfl, rfl⟩)
  go_loopw [6] (fun f wr => ∃ (m : Nat) (l : List UInt8), f = .int .i64 m ∧ m < 65536 ∧ Lib.IsBuilder 113 5 w.heap.size w.heap.size (Lib.byteCells l) wr ∧ Below w.heap.size w wr ∧ l.length + (fracL m).length ≤ 16 ∧ restL 0 = l ++ fracL m) (fun f _ => (fracL (intOf f).toNat).length)
  case atStart => exact ⟨0, [], by go_num, by omega, Lib.fresh_isBuilder _ _ _, (Below.refl _ _).alloc (Nat.le_refl _) _, by simpa using fracL_len _, rfl⟩
  case round =>
    obtain ⟨m, l, rfl, hm1, hB, hbel, hlen, hrest⟩ := hrel
    have Hrest := hid hrest; clear hrest
    have hsz := hbel.size
    by_cases hm0 : 0 < m
    · have hst := fracL_step m hm0 hm1
      have Hst := hid hst; clear hst
      have hm2 := and_mask16 (m * 10) oO oO
      clear hm
      go_wp2_with (go_at_call 85; go_must (refine (WriteByte _ _ _ _ _ hB (by rw [byteCells_len]; omega) hsz).mono ?_); rintro e w1 ⟨rfl, hB1, hbel1⟩)
      have hc := byteCells_snoc l (48 + (m : Int) * 10 / 65536) oO oO
      rw [hc] at hB1
      have e1 : ((m * 10 / 65536 : Nat) : Int) = (m : Int) * 10 / 65536 := by omega
      have hl2 := congrArg List.length Hst.out
      simp only [List.length_cons] at hl2
      refine ⟨⟨m * 10 % 65536, l ++ [ch (48 + (m : Int) * 10 / 65536)], by go_num, by omega, .inr hB1, hbel.trans hbel1, ?_, ?_⟩, ?_⟩
      · simp; omega
      · rw [Hrest.out, Hst.out, e1]; simp
      · have e2 : ((m : Int) * 10 % 65536).toNat = m * 10 % 65536 := by omega
        have e3 : ((m : Int)).toNat = m := by omega
        simp only [intOf, e2, e3]; omega
    · have hm00 : m = 0 := by omega
      have Hm := hid hm00; clear hm00
      go_wp2_with first | (go_at_call 220; refine (dec_digits 0 _ _ oO oO oO).mono ?_; rintro e w' ⟨rfl, rfl⟩) | (go_at_call 88; refine (Tryz.Builder_String_any _ _ _ _ hB hsz).mono ?_; rintro e w1 ⟨rfl, hbel1⟩)
      go_ret3
      exact ⟨ret3 rfl rfl (by rw [Hrest.out, Hm.out, fracL_zero, List.append_nil]; rfl), hbel.trans hbel1⟩
/-- what the texts are of: n, or 0 where n does not fit -/
def norm (n : Int) : Int := if fitsB n then n else 0
theorem dec_parts (n : Int) (w : World) :
    Calls Tryz.prog 178 #[.int .i64 n] w fun e w' => e = .returned (.tuple #[.string (bs (signL (norm n))), .string (bs (wholeL (norm n))), .string (bs (restL (norm n)))]) ∧ Below w.heap.size w w' := by
  unfold norm
  by_cases h1 : n < -2147483648
  · rw [fitsB_lo h1]; exact dec_parts_not n w (fitsB_lo h1)
  · by_cases h2 : 2147483647 < n
    · rw [fitsB_hi h2]; exact dec_parts_not n w (fitsB_hi h2)
    · rw [fitsB_yes oO oO]
      by_cases h3 : n < 0
      · exact dec_parts_neg n w oO h3
      · exact dec_parts_pos n w oO oO
end
section
theorem norm_lo (n : Int) : -2147483648 ≤ norm n := by unfold norm fitsB; split <;> simp at * <;> omega
theorem norm_hi (n : Int) : norm n ≤ 2147483647 := by unfold norm fitsB; split <;> simp at * <;> omega
theorem signL_size (n : Int) : (bs (signL n)).size ≤ 1 := by rw [bs_size]; unfold signL; split <;> simp
theorem wholeL_size (n : Int) (h : -2147483648 ≤ n) (h' : n ≤ 2147483647) : (bs (wholeL n)).size ≤ 20 := digitsL_size _ oO
theorem restL_size (n : Int) : (bs (restL n)).size ≤ 16 := by rw [bs_size]; exact fracL_len _
/-- a number's text -/
def printL (n : Int) : List UInt8 := signL n ++ wholeL n ++ (if restL n = [] then [] else 46 :: restL n)
theorem ret_str {a b : ByteArray} (h : a = b) : Ending.returned (.string a) = Ending.returned (.string b) := by rw [h]
set_option maxHeartbeats 400000 in
theorem dec_Print (n : Int) (w : World) :
  Calls Tryz.prog 121 #[.int .i64 n] w fun e w' => e = .returned (.string (bs (printL (norm n)))) ∧ Below w.heap.size w w' := by
 have h1 := signL_size (norm n)
 have h2 := wholeL_size (norm n) (norm_lo n) (norm_hi n)
 have h3 := restL_size (norm n)
 by_cases h0 : restL (norm n) = []
 ·
  have H0 := hid h0
  have he : (bs (restL (norm n))).toList.isEmpty = true := by rw [h0]; simp [bs]
  clear h0
  go_enter func121, ntmps121
  go_wp2_with (go_at_call 178; refine (dec_parts _ _).mono ?_; rintro e w1 ⟨rfl, hb⟩)
  go_ret
  exact ⟨ret_str (by rw [printL, if_pos H0.out, bs_append]; simp), hb⟩
 ·
  have H0 := hid h0
  have he : (bs (restL (norm n))).toList.isEmpty = false := by
   cases h : restL (norm n) with
   | nil => exact absurd h h0
   | cons a l => simp [bs]
  clear h0
  go_enter func121, ntmps121
  go_wp2_with (go_at_call 178; refine (dec_parts _ _).mono ?_; rintro e w1 ⟨rfl, hb⟩)
  go_ret
  refine ⟨ret_str ?_, hb⟩
  rw [printL, if_neg H0.out]
  show bs _ ++ bs _ ++ bs [46] ++ bs _ = _
  rw [bs_append, bs_append, bs_append]; simp
theorem fracL_ne (f : Nat) (h : 0 < f) (h' : f < 65536) : fracL f ≠ [] := by rw [fracL_step f h h']; simp
theorem restL_iff (n : Int) : restL n = [] ↔ n.natAbs % 65536 = 0 := by
 unfold restL
 constructor
 ·
  intro h
  by_cases h0 : n.natAbs % 65536 = 0
  ·
   exact h0
  ·
   exact absurd h (fracL_ne _ oO oO)
 ·
  intro h; rw [h, fracL_zero]
end
section
theorem ref_Print_not (n : Int) (w : World) (h : fitsB n = false) :
  Calls Tryz.prog 65 #[.int .i64 n] w fun e w' => e = .returned (.string (bs [48])) ∧ Below w.heap.size w w' := by
 go_enter func65, ntmps65
 go_wp2_with (go_at_call 62; refine (ref_Fits _ _).mono ?_; rintro e w1 ⟨rfl, rfl⟩)
 go_ret
 exact ⟨rfl, Below.refl _ _⟩
theorem decL_pos (n : Int) (h : 0 ≤ n) : decL n = digitsL n.toNat := by
 unfold decL; rw [if_neg oO]; congr 1; omega
theorem printL_of (n m : Int) (hm : m = (n.natAbs : Int)) : printL n = signL n ++ decL (m / 65536) ++ (if 0 < m % 65536 then [46] else []) ++ fracL (m % 65536).toNat := by
  subst hm
  rw [decL_pos _ oO]
  have e1 : ((n.natAbs : Int) / 65536).toNat = n.natAbs / 65536 := by omega
  have e2 : ((n.natAbs : Int) % 65536).toNat = n.natAbs % 65536 := by omega
  rw [e1, e2]
  unfold printL wholeL restL
  by_cases h0 : n.natAbs % 65536 = 0
  · have hc : ¬ (0 : Int) < (n.natAbs : Int) % 65536 := by omega
    simp [hc, h0, fracL_zero]
  · have hc : (0 : Int) < (n.natAbs : Int) % 65536 := by omega
    simp [hc, fracL_ne _ (show 0 < n.natAbs % 65536 by omega) oO]
theorem bs_nil : (⟨#[]⟩ : ByteArray) = bs [] := rfl
theorem bs_one (c : UInt8) : (⟨#[c]⟩ : ByteArray) = bs [c] := rfl
set_option maxHeartbeats 400000 in
theorem ref_Print_pos (n : Int) (w : World) (h : 0 ≤ n) (h' : n ≤ 2147483647) :
    Calls Tryz.prog 65 #[.int .i64 n] w fun e w' => e = .returned (.string (bs (printL n))) ∧ Below w.heap.size w w' := by
  have hf := fitsB_yes (n := n) oO h'
  have hd := decL_size (n / 65536) oO oO
  have hP := printL_of n n oO
  rw [signL, if_neg oO] at hP
  by_cases hr : 0 < n % 65536
  all_goals
    first | rw [if_pos hr] at hP | rw [if_neg hr] at hP
    have HP := hid hP; clear hP
    go_enter func65, ntmps65
    go_wp2_with first | (go_at_call 62; refine (ref_Fits _ _).mono ?_; rintro e w1 ⟨rfl, rfl⟩) | (go_at_call 37; go_must (refine (ref_Dec _ _ oO oO).mono ?_); rintro e w1 ⟨rfl, hb1⟩)
    go_loopw [3, 4] (fun s r wr => ∃ (t : List UInt8) (m : Nat), s = .string (bs t) ∧ r = .int .i64 m ∧ m < 65536 ∧ Below w.heap.size w wr ∧ t.length + (fracL m).length ≤ 60 ∧ printL n = t ++ fracL m) (fun _ r _ => (fracL (intOf r).toNat).length)
    case atStart =>
      have hl := fracL_len (n % 65536).toNat
      rw [bs_size] at hd
      refine ⟨_, (n % 65536).toNat, ?_, by go_num, by omega, hb1, ?_, HP.out⟩
      · simp [bs_nil, bs_one, bs_append]
      · simp; omega
    case round =>
      obtain ⟨t, m, rfl, rfl, hm, hb, hlen, hp⟩ := hrel
      have Hp := hid hp; clear hp HP
      by_cases hm0 : 0 < m
      · have hst := fracL_step m hm0 hm
        have Hst := hid hst; clear hst
        have hl2 := congrArg List.length Hst.out
        simp only [List.length_cons] at hl2
        have hs1 : (bs t).size ≤ 60 := by rw [bs_size]; omega
        have hs2 := decL_size ((m : Int) * 10 / 65536) oO oO
        clear hd hb1
        have hsz := hb.size
        go_wp2_with (go_at_call 37; go_must (refine (ref_Dec _ _ oO oO).mono ?_); rintro e w1 ⟨rfl, hb1⟩)
        have e1 : decL ((m : Int) * 10 / 65536) = [ch (48 + ((m * 10 / 65536 : Nat) : Int))] := by
          rw [decL_pos _ oO, digitsL_lt _ oO, Int.toNat_of_nonneg oO, Int.natCast_ediv, Int.natCast_mul]; rfl
        refine ⟨⟨t ++ decL ((m : Int) * 10 / 65536), m * 10 % 65536, by rw [bs_append], by go_num, by omega, hb.trans (hb1.mono hsz), ?_, ?_⟩, ?_⟩
        · rw [e1]; simp; omega
        · rw [Hp.out, Hst.out, e1]; simp
        · have e2 : ((m : Int) * 10 % 65536).toNat = m * 10 % 65536 := by omega
          have e3 : ((m : Int)).toNat = m := by omega
          simp only [intOf, e2, e3]; omega
      · have hm00 : m = 0 := by omega
        have Hm := hid hm00; clear hm00
        go_wp2
        go_ret
        exact ⟨ret_str (by rw [Hp.out, Hm.out, fracL_zero, List.append_nil]), hb⟩
set_option maxHeartbeats 400000 in
theorem ref_Print_neg (k : Int) (w : World) (h : 0 < k) (h' : k ≤ 2147483648) :
    Calls Tryz.prog 65 #[.int .i64 (-k)] w fun e w' => e = .returned (.string (bs (printL (-k)))) ∧ Below w.heap.size w w' := by
  have hf := fitsB_yes (n := -k) oO oO
  have hd := decL_size (k / 65536) oO oO
  have hP := printL_of (-k) k oO
  rw [signL, if_pos oO] at hP
  by_cases hr : 0 < k % 65536
  all_goals
    first | rw [if_pos hr] at hP | rw [if_neg hr] at hP
    have HP := hid hP; clear hP
    go_enter func65, ntmps65
    go_wp2_with first | (go_at_call 62; refine (ref_Fits _ _).mono ?_; rintro e w1 ⟨rfl, rfl⟩) | (go_at_call 37; go_must (refine (ref_Dec _ _ oO oO).mono ?_); rintro e w1 ⟨rfl, hb1⟩)
    go_loopw [3, 4] (fun s r wr => ∃ (t : List UInt8) (m : Nat), s = .string (bs t) ∧ r = .int .i64 m ∧ m < 65536 ∧ Below w.heap.size w wr ∧ t.length + (fracL m).length ≤ 60 ∧ printL (-k) = t ++ fracL m) (fun _ r _ => (fracL (intOf r).toNat).length)
    case atStart =>
      have hl := fracL_len (k % 65536).toNat
      rw [bs_size] at hd
      refine ⟨_, (k % 65536).toNat, ?_, by go_num, by omega, hb1, ?_, HP.out⟩
      · simp [bs_one, bs_append]
      · simp; omega
    case round =>
      obtain ⟨t, m, rfl, rfl, hm, hb, hlen, hp⟩ := hrel
      have Hp := hid hp; clear hp HP
      by_cases hm0 : 0 < m
      · have hst := fracL_step m hm0 hm
        have Hst := hid hst; clear hst
        have hl2 := congrArg List.length Hst.out
        simp only [List.length_cons] at hl2
        have hs1 : (bs t).size ≤ 60 := by rw [bs_size]; omega
        have hs2 := decL_size ((m : Int) * 10 / 65536) oO oO
        clear hd hb1
        have hsz := hb.size
        go_wp2_with (go_at_call 37; go_must (refine (ref_Dec _ _ oO oO).mono ?_); rintro e w1 ⟨rfl, hb1⟩)
        have e1 : decL ((m : Int) * 10 / 65536) = [ch (48 + ((m * 10 / 65536 : Nat) : Int))] := by
          rw [decL_pos _ oO, digitsL_lt _ oO, Int.toNat_of_nonneg oO, Int.natCast_ediv, Int.natCast_mul]; rfl
        refine ⟨⟨t ++ decL ((m : Int) * 10 / 65536), m * 10 % 65536, by rw [bs_append], by go_num, by omega, hb.trans (hb1.mono hsz), ?_, ?_⟩, ?_⟩
        · rw [e1]; simp; omega
        · rw [Hp.out, Hst.out, e1]; simp
        · have e2 : ((m : Int) * 10 % 65536).toNat = m * 10 % 65536 := by omega
          have e3 : ((m : Int)).toNat = m := by omega
          simp only [intOf, e2, e3]; omega
      · have hm00 : m = 0 := by omega
        have Hm := hid hm00; clear hm00
        go_wp2
        go_ret
        exact ⟨ret_str (by rw [Hp.out, Hm.out, fracL_zero, List.append_nil]), hb⟩
theorem ref_Print (n : Int) (w : World) :
    Calls Tryz.prog 65 #[.int .i64 n] w fun e w' => e = .returned (.string (bs (printL (norm n)))) ∧ Below w.heap.size w w' := by
  have e0 : printL 0 = [48] := by
    have hz : restL 0 = [] := rfl
    have hd : digitsL 0 = [48] := by rw [digitsL_lt 0 oO]; rfl
    simp [printL, signL, wholeL, hz, hd]
  unfold norm
  by_cases h1 : n < -2147483648
  · rw [fitsB_lo h1]; simp only [Bool.false_eq_true, if_false, e0]; exact ref_Print_not n w (fitsB_lo h1)
  · by_cases h2 : 2147483647 < n
    · rw [fitsB_hi h2]; simp only [Bool.false_eq_true, if_false, e0]; exact ref_Print_not n w (fitsB_hi h2)
    · rw [fitsB_yes oO oO]
      by_cases h3 : n < 0
      · have h := ref_Print_neg (-n) w oO oO
        rw [Int.neg_neg] at h; exact h
      · exact ref_Print_pos n w oO oO
theorem printL_size (n : Int) : (bs (printL (norm n))).size ≤ 60 := by
 have h1 := signL_size (norm n)
 have h2 := wholeL_size (norm n) (norm_lo n) (norm_hi n)
 have h3 := restL_size (norm n)
 rw [bs_size] at *
 unfold printL
 split <;> simp <;> omega
end
section
def numT (n : Int) : List UInt8 := 32 :: printL (norm n)
theorem numT_len (n : Int) : (numT n).length ≤ 61 := by
 have := printL_size n
 rw [bs_size] at this
 unfold numT; simp only [List.length_cons]; omega
def segT (s : SegV) : List UInt8 :=
 if s.fKind = 1 then 32 :: 109 :: (numT s.fP_0.fX ++ numT s.fP_0.fY)
 else if s.fKind = 2 then 32 :: 108 :: (numT s.fP_0.fX ++ numT s.fP_0.fY)
 else if s.fKind = 3 then 32 :: 99 :: (numT s.fP_0.fX ++ numT s.fP_0.fY ++ (numT s.fP_1.fX ++ numT s.fP_1.fY) ++ (numT s.fP_2.fX ++ numT s.fP_2.fY))
 else [32, 104]
theorem segT_len (s : SegV) : (segT s).length ≤ 368 := by
 have h := fun n => numT_len n
 have h1 := h s.fP_0.fX; have h2 := h s.fP_0.fY; have h3 := h s.fP_1.fX; have h4 := h s.fP_1.fY; have h5 := h s.fP_2.fX; have h6 := h s.fP_2.fY
 unfold segT
 split
 ·
  simp only [List.length_cons, List.length_append]; omega
 ·
  split
  ·
   simp only [List.length_cons, List.length_append]; omega
  ·
   split
   ·
    simp only [List.length_cons, List.length_append]; omega
   ·
    simp
def pathT (l : List SegV) : List UInt8 := l.flatMap segT
theorem pathT_len : ∀ l : List SegV, (pathT l).length ≤ 368 * l.length
 | [] => by simp [pathT]
 | s :: l => by
  have h1 := pathT_len l
  have h2 := segT_len s
  unfold pathT at *
  simp only [List.flatMap_cons, List.length_append, List.length_cons]; omega
theorem flatMap_take {α β : Type} {g : α → List β} {l : List α} {i : Nat} (h : i < l.length) : (l.take (i + 1)).flatMap g = (l.take i).flatMap g ++ g l[i] := by
 rw [List.take_add_one, List.getElem?_eq_getElem h, Option.toList_some, List.flatMap_append]; simp
theorem ref_num (n : Int) (w : World) : Calls Tryz.prog 57 #[.int .i64 n] w fun e w' => e = .returned (.string (bs (numT n))) ∧ Below w.heap.size w w' := by
 have hl : (printL (norm n)).length ≤ 60 := by have := printL_size n; rw [bs_size] at this; exact this
 refine W.enter func57 rfl ntmps57 (Nat.le_of_ble_eq_true rfl) ?_
 have hB0 := Below.refl (w.heap.size) w
 refine W.sr <| WL.z rfl rfl ?_
 refine W.sr <| WL.m rfl rfl <| WL.c1 hb65 rfl rfl ((ref_Print n _)) (fun w1 hw1 => ?_)
 have hB2 := btr hB0 hw1
 refine WL.p (.cat rfl rfl (by simp only [List.length_append, List.length_cons, List.length_nil] <;> omega)) rfl <| WL.z rfl rfl ?_
 refine W.ret (W.ret1 rfl rfl ?_)
 exact ⟨rfl, hB2⟩
theorem isz168 : (Tryz.prog.info? 168).map (·.size) = some 6 := by kernel_rfl
def ptsL : Lay SegV := ⟨6, fun s => pointV s.fP_0 ++ pointV s.fP_1 ++ pointV s.fP_2, by decide, fun _ => rfl, fun x u hu => List.all_eq_true.1 (show (pointV x.fP_0 ++ pointV x.fP_1 ++ pointV x.fP_2).all Value.oneCell' = true from rfl) u hu⟩
theorem pts_row {w : World} {b : Nat} {t : TypeId} {s : SegV} (h : Blk w b (ptsL.V s).toArray t) : RowM pointL w (some ⟨b, 0, none⟩) [s.fP_0, s.fP_1, s.fP_2] := by
 refine RowM.of_flat (fun _ => rfl) fun k v hk => ?_
 show w.cell? ((⟨b, 0, none⟩ : Addr).add k) = _
 rw [add_lit, Nat.zero_add, h.cell]
 simpa [Lay.flat, ptsL, pointL] using hk
def ptT (s : SegV) (k : Nat) : List UInt8 := ([s.fP_0, s.fP_1, s.fP_2].take k).flatMap fun q => numT q.fX ++ numT q.fY
theorem ptT_succ {s : SegV} {k : Nat} (h : k < [s.fP_0, s.fP_1, s.fP_2].length) : ptT s (k + 1) = ptT s k ++ (numT [s.fP_0, s.fP_1, s.fP_2][k].fX ++ numT [s.fP_0, s.fP_1, s.fP_2][k].fY) := flatMap_take h
theorem ptT_len (s : SegV) (k : Nat) : (ptT s k).length ≤ 366 := by
 have h := fun n => numT_len n
 have h1 := h s.fP_0.fX; have h2 := h s.fP_0.fY; have h3 := h s.fP_1.fX; have h4 := h s.fP_1.fY; have h5 := h s.fP_2.fX; have h6 := h s.fP_2.fY
 unfold ptT
 rcases k with _ | _ | _ | k <;> simp only [List.take_zero, List.take_succ_cons, List.take_nil, List.flatMap_nil, List.flatMap_cons, List.length_nil, List.length_append] <;> omega
set_option maxHeartbeats 800000 in
theorem ref_path (p : Option Addr) (l : List SegV) (c : Nat) (w : World) (hr : RowM segL w p l) (hl : l.length ≤ 1048576) :
  Calls Tryz.prog 101 #[.slice p l.length c] w fun e w' => e = .returned (.string (bs (pathT l))) ∧ Below w.heap.size w w' := by
 have hrl : 0 < l.length → (pA p).block < w.heap.size := fun h0 => hr.lt h0
 refine W.enter func101 rfl ntmps101 (Nat.le_of_ble_eq_true rfl) ?_
 have hB0 := Below.refl (w.heap.size) w
 refine W.sr <| WL.z rfl rfl ?_
 refine W.sr <| WL.z rfl rfl ?_
 refine W.seq <| W.sr <| WL.z rfl rfl ?_
 refine W.block ?_
 refine W.loop (α := Nat) (fun t => [(0, .slice p l.length c), (3, .string (bs (pathT (l.take t)))), (4, .int .i64 (t : Int))]) (fun t w' => Below w.heap.size w w' ∧ t ≤ l.length) (fun t => l.length - t) (0) ⟨rfl, rfl, rfl, trivial⟩ (⟨hB0, Nat.zero_le _⟩) (fun t w1 hR => ?_)
 obtain ⟨i, rfl⟩ : ∃ i, i = t := ⟨t, rfl⟩
 obtain ⟨hT, hi⟩ := hR
 have hrb := hr.below hT hrl
 have hpl := pathT_len (l.take i)
 rw [List.length_take] at hpl
 have hnl := fun n => numT_len n
 refine W.seq <| W.sr <| WL.m rfl rfl <| WL.m rfl rfl <| WL.p (.lenS underlying77 rfl) rfl <| WL.p (.lss rfl rfl) rfl <| WL.nil <| ?_
 refine W.cond rfl (fun h1 => ?_) (fun h1 => ?_)
 have h1' := dT h1
 have hil : i < l.length := by omega
 have hft : pathT (l.take (i + 1)) = pathT (l.take i) ++ segT l[i] := flatMap_take hil
 have n1 := hnl l[i].fP_0.fX; have n2 := hnl l[i].fP_0.fY
 have hp30 : 0 < [l[i].fP_0, l[i].fP_1, l[i].fP_2].length := by simp
 have n5 := hnl ([l[i].fP_0, l[i].fP_1, l[i].fP_2][0]'hp30).fX; have n6 := hnl ([l[i].fP_0, l[i].fP_1, l[i].fP_2][0]'hp30).fY
 refine W.skip <| W.seq <| W.block <| W.sr <| WL.m rfl rfl <| WL.m rfl rfl <| WL.p (.ixm underlying77 sizeOf170 rfl rfl (hrb.isp oO) (i) (rfl) oO) rfl <| WL.p (.fa underlying170 rfl sizeOf168 dD rfl) rfl <| WL.r (Rd.ldG (L' := ptsL) underlying168 rfl isz168 hrb (i) oO 1 (l[i]) (rfl) rfl) rfl <| WL.alloc zeroValue168 rfl (fun b2 wb2 eb2 hkb2 hub2 hsb2 => ?_)
 have hvl4 := fun h0 => eb2 ▸ hrb.lt h0
 have hv3 := RowM.upd hrb hub2 (fun h0 => Nat.ne_of_lt (hvl4 h0))
 have hB5 := Upd.below hT (by rw [eb2]; exact hT.size) hub2
 have hgeb2 : w.heap.size ≤ b2 := by rw [eb2]; exact hT.size
 refine WL.stL rfl rfl hkb2 isz168 rfl rfl (fun w6 hkw6 huw6 hsw6 => ?_)
 have hv7 := RowM.upd hv3 huw6 (fun h0 => Nat.ne_of_lt (hvl4 h0))
 have hB8 := Upd.below hB5 oO huw6
 refine WL.nil <| ?_
 refine W.sr <| WL.m rfl rfl <| WL.m rfl rfl <| WL.p (.ixm underlying77 sizeOf170 rfl rfl (hv7.isp oO) (i) (rfl) oO) rfl <| WL.p (.fa underlying170 rfl sizeOf3 dD rfl) rfl <| WL.r (Rd.ldc (isAgg3 _) rfl ((hv7.field (i) oO 0 dD).trans rfl)) rfl <| WL.nil <| ?_
 refine W.block <| W.sr <| WL.p (.eql rfl rfl) rfl <| WL.z rfl rfl ?_
 refine W.cond rfl (fun h9 => ?_) (fun h9 => ?_)
 have h9' := dT h9
 refine W.regH 13 rfl mixed (fun w' => Below w6.heap.size w6 w') (fun w10 dw10 => ?_)
 have hB13 := Drew.below hB8 dw10
 have hS14 : Below w6.heap.size w6 w10 := Drew.below (Below.refl _ _) dw10
 refine WH.tp 0 rfl (.mv rfl) hS14 rfl ?_
 refine WH.tp 1 rfl (.cat rfl rfl (by simp only [List.length_append, List.length_cons, List.length_nil] <;> omega)) hS14 rfl ?_
 refine WH.tp 2 rfl (.ixr underlying168 sizeOf167 rfl rfl 0 rfl oO) hS14 rfl ?_
 refine WH.tp 3 rfl (.fa underlying167 rfl sizeOf3 dD rfl) hS14 rfl ?_
 refine WH.tk 4 rfl (fun w' hw' => Rd.ldc (isAgg3 _) rfl (((pts_row (hkw6.below hw' hkw6.lt)).field (0) oO 0 dD).trans rfl)) hS14 rfl ?_
 refine WH.tp 7 rfl (.ixr underlying168 sizeOf167 rfl rfl 0 rfl oO) hS14 rfl ?_
 refine WH.tp 8 rfl (.fa underlying167 rfl sizeOf3 dD rfl) hS14 rfl ?_
 refine WH.tk 9 rfl (fun w' hw' => Rd.ldc (isAgg3 _) rfl (((pts_row (hkw6.below hw' hkw6.lt)).field (0) oO 1 dD).trans rfl)) hS14 rfl ?_
 refine WH.br1 5 rfl ?_
 refine WL.c1 hb57 rfl rfl ((ref_num _ _)) (fun w15 hw15 => ?_)
 have hS16 := Below.trans hS14 (Below.mono hw15 hS14.size)
 have hB19 := btr hB13 hw15
 refine WL.nil <| ?_
 refine ⟨hS16, ?_⟩
 refine WH.tp 6 rfl (.cat rfl rfl (by simp only [List.length_append, List.length_cons, List.length_nil] <;> omega)) hS16 rfl ?_
 refine WH.br1 10 rfl ?_
 refine WL.c1 hb57 rfl rfl ((ref_num _ _)) (fun w20 hw20 => ?_)
 have hS21 := Below.trans hS16 (Below.mono hw20 hS16.size)
 have hB24 := btr hB19 hw20
 refine WL.nil <| ?_
 refine ⟨hS21, ?_⟩
 refine WH.tp 11 rfl (.cat rfl rfl (by simp only [List.length_append, List.length_cons, List.length_nil] <;> omega)) hS21 rfl ?_
 refine WH.tp 12 rfl (.as rfl) hS21 rfl ?_
 refine WH.done kR ?_
 refine W.reg <| WL.m rfl rfl <| WL.p (.iis (((i + 1 : Nat) : Int)) (.add rfl rfl (i64w oO)) oO) rfl <| WL.z rfl rfl ?_
 first
 | exact ⟨i + 1, ⟨rfl, lk_s rfl (by rw [hft, segT, if_pos aS]; simp only [List.append_assoc, List.cons_append, List.nil_append, List.getElem_cons_zero]), rfl, trivial⟩, ⟨hB24, by ((try simp only) <;> omega)⟩, by ((try simp only) <;> omega)⟩
 | exact ⟨i + 1, ⟨rfl, lk_s rfl (by rw [hft, segT, if_neg oO, if_pos aS]; simp only [List.append_assoc, List.cons_append, List.nil_append, List.getElem_cons_zero]), rfl, trivial⟩, ⟨hB24, by ((try simp only) <;> omega)⟩, by ((try simp only) <;> omega)⟩
 | exact ⟨i + 1, ⟨rfl, lk_s rfl (by rw [hft, segT, if_neg oO, if_neg oO, if_pos aS, hp3]; simp only [List.append_assoc, List.cons_append, List.nil_append]), rfl, trivial⟩, ⟨hB24, by ((try simp only) <;> omega)⟩, by ((try simp only) <;> omega)⟩
 | exact ⟨i + 1, ⟨rfl, lk_s rfl (by rw [hft, segT, if_neg oO, if_neg oO, if_neg oO]), rfl, trivial⟩, ⟨hB24, by ((try simp only) <;> omega)⟩, by ((try simp only) <;> omega)⟩
 have h9' := dF h9
 refine W.sr <| WL.p (.eql rfl rfl) rfl <| WL.z rfl rfl ?_
 refine W.cond rfl (fun h25 => ?_) (fun h25 => ?_)
 have h25' := dT h25
 refine W.regH 13 rfl mixed (fun w' => Below w6.heap.size w6 w') (fun w26 dw26 => ?_)
 have hB29 := Drew.below hB8 dw26
 have hS30 : Below w6.heap.size w6 w26 := Drew.below (Below.refl _ _) dw26
 refine WH.tp 0 rfl (.mv rfl) hS30 rfl ?_
 refine WH.tp 1 rfl (.cat rfl rfl (by simp only [List.length_append, List.length_cons, List.length_nil] <;> omega)) hS30 rfl ?_
 refine WH.tp 2 rfl (.ixr underlying168 sizeOf167 rfl rfl 0 rfl oO) hS30 rfl ?_
 refine WH.tp 3 rfl (.fa underlying167 rfl sizeOf3 dD rfl) hS30 rfl ?_
 refine WH.tk 4 rfl (fun w' hw' => Rd.ldc (isAgg3 _) rfl (((pts_row (hkw6.below hw' hkw6.lt)).field (0) oO 0 dD).trans rfl)) hS30 rfl ?_
 refine WH.tp 7 rfl (.ixr underlying168 sizeOf167 rfl rfl 0 rfl oO) hS30 rfl ?_
 refine WH.tp 8 rfl (.fa underlying167 rfl sizeOf3 dD rfl) hS30 rfl ?_
 refine WH.tk 9 rfl (fun w' hw' => Rd.ldc (isAgg3 _) rfl (((pts_row (hkw6.below hw' hkw6.lt)).field (0) oO 1 dD).trans rfl)) hS30 rfl ?_
 refine WH.br1 5 rfl ?_
 refine WL.c1 hb57 rfl rfl ((ref_num _ _)) (fun w31 hw31 => ?_)
 have hS32 := Below.trans hS30 (Below.mono hw31 hS30.size)
 have hB35 := btr hB29 hw31
 refine WL.nil <| ?_
 refine ⟨hS32, ?_⟩
 refine WH.tp 6 rfl (.cat rfl rfl (by simp only [List.length_append, List.length_cons, List.length_nil] <;> omega)) hS32 rfl ?_
 refine WH.br1 10 rfl ?_
 refine WL.c1 hb57 rfl rfl ((ref_num _ _)) (fun w36 hw36 => ?_)
 have hS37 := Below.trans hS32 (Below.mono hw36 hS32.size)
 have hB40 := btr hB35 hw36
 refine WL.nil <| ?_
 refine ⟨hS37, ?_⟩
 refine WH.tp 11 rfl (.cat rfl rfl (by simp only [List.length_append, List.length_cons, List.length_nil] <;> omega)) hS37 rfl ?_
 refine WH.tp 12 rfl (.as rfl) hS37 rfl ?_
 refine WH.done kR ?_
 refine W.reg <| WL.m rfl rfl <| WL.p (.iis (((i + 1 : Nat) : Int)) (.add rfl rfl (i64w oO)) oO) rfl <| WL.z rfl rfl ?_
 first
 | exact ⟨i + 1, ⟨rfl, lk_s rfl (by rw [hft, segT, if_pos aS]; simp only [List.append_assoc, List.cons_append, List.nil_append, List.getElem_cons_zero]), rfl, trivial⟩, ⟨hB40, by ((try simp only) <;> omega)⟩, by ((try simp only) <;> omega)⟩
 | exact ⟨i + 1, ⟨rfl, lk_s rfl (by rw [hft, segT, if_neg oO, if_pos aS]; simp only [List.append_assoc, List.cons_append, List.nil_append, List.getElem_cons_zero]), rfl, trivial⟩, ⟨hB40, by ((try simp only) <;> omega)⟩, by ((try simp only) <;> omega)⟩
 | exact ⟨i + 1, ⟨rfl, lk_s rfl (by rw [hft, segT, if_neg oO, if_neg oO, if_pos aS, hp3]; simp only [List.append_assoc, List.cons_append, List.nil_append]), rfl, trivial⟩, ⟨hB40, by ((try simp only) <;> omega)⟩, by ((try simp only) <;> omega)⟩
 | exact ⟨i + 1, ⟨rfl, lk_s rfl (by rw [hft, segT, if_neg oO, if_neg oO, if_neg oO]), rfl, trivial⟩, ⟨hB40, by ((try simp only) <;> omega)⟩, by ((try simp only) <;> omega)⟩
 have h25' := dF h25
 refine W.sr <| WL.p (.eql rfl rfl) rfl <| WL.z rfl rfl ?_
 refine W.cond rfl (fun h41 => ?_) (fun h41 => ?_)
 have h41' := dT h41
 refine W.sr <| WL.m rfl rfl <| WL.p (.cat rfl rfl (by simp only [List.length_append, List.length_cons, List.length_nil] <;> omega)) rfl <| WL.z rfl rfl ?_
 refine W.sr <| WL.z rfl rfl ?_
 refine W.block ?_
 refine W.loop (α := Nat) (fun t => [(0, .slice p l.length c), (3, .string (bs (pathT (l.take i) ++ [32, 99] ++ ptT l[i] t))), (4, .int .i64 (i : Int)), (5, .pointer (some ⟨b2, 0, none⟩)), (6, .int .i64 (t : Int))]) (fun t w' => Below w.heap.size w w' ∧ Blk w' b2 (ptsL.V l[i]).toArray 168 ∧ t ≤ 3) (fun t => 3 - t) (0) ⟨rfl, lk_s rfl (by simp [ptT]), rfl, rfl, rfl, trivial⟩ (⟨hB8, hkw6, by decide⟩) (fun t w1 hR => ?_)
 obtain ⟨k, rfl⟩ : ∃ k, k = t := ⟨t, rfl⟩
 obtain ⟨hT2, hk2, hk3⟩ := hR
 have hrb2 := hr.below hT2 hrl
 have hptl := ptT_len l[i] k
 refine W.seq <| W.sr <| WL.m rfl rfl <| WL.p (.lss rfl rfl) rfl <| WL.nil <| ?_
 refine W.cond rfl (fun h42 => ?_) (fun h42 => ?_)
 have h42' := dT h42
 have hkl : k < [l[i].fP_0, l[i].fP_1, l[i].fP_2].length := by simp; omega
 have n3 := hnl [l[i].fP_0, l[i].fP_1, l[i].fP_2][k].fX; have n4 := hnl [l[i].fP_0, l[i].fP_1, l[i].fP_2][k].fY
 refine W.skip <| W.seq <| W.block <| W.regH 14 rfl mixed (fun w' => Below w1.heap.size w1 w') (fun w43 dw43 => ?_)
 have hk44 := hk2.drew dw43
 have hB46 := Drew.below hT2 dw43
 have hS47 : Below w1.heap.size w1 w43 := Drew.below (Below.refl _ _) dw43
 refine WH.tp 0 rfl (.mv rfl) hS47 rfl ?_
 refine WH.tp 1 rfl (.mv rfl) hS47 rfl ?_
 refine WH.tp 2 rfl (.ixr underlying168 sizeOf167 rfl rfl (k) (rfl) oO) hS47 rfl ?_
 refine WH.tp 3 rfl (.fa underlying167 rfl sizeOf3 dD rfl) hS47 rfl ?_
 refine WH.tk 4 rfl (fun w' hw' => Rd.ldc (isAgg3 _) rfl (((pts_row (hk2.below hw' hk2.lt)).field (k) oO 0 dD).trans rfl)) hS47 rfl ?_
 refine WH.tp 7 rfl (.mv rfl) hS47 rfl ?_
 refine WH.tp 8 rfl (.ixr underlying168 sizeOf167 rfl rfl (k) (rfl) oO) hS47 rfl ?_
 refine WH.tp 9 rfl (.fa underlying167 rfl sizeOf3 dD rfl) hS47 rfl ?_
 refine WH.tk 10 rfl (fun w' hw' => Rd.ldc (isAgg3 _) rfl (((pts_row (hk2.below hw' hk2.lt)).field (k) oO 1 dD).trans rfl)) hS47 rfl ?_
 refine WH.br1 5 rfl ?_
 refine WL.c1 hb57 rfl rfl ((ref_num _ _)) (fun w48 hw48 => ?_)
 have hS49 := Below.trans hS47 (Below.mono hw48 hS47.size)
 have hk50 := hk44.below hw48 hk44.lt
 have hB52 := btr hB46 hw48
 refine WL.nil <| ?_
 refine ⟨hS49, ?_⟩
 refine WH.tp 6 rfl (.cat rfl rfl (by simp only [List.length_append, List.length_cons, List.length_nil] <;> omega)) hS49 rfl ?_
 refine WH.br1 11 rfl ?_
 refine WL.c1 hb57 rfl rfl ((ref_num _ _)) (fun w53 hw53 => ?_)
 have hS54 := Below.trans hS49 (Below.mono hw53 hS49.size)
 have hk55 := hk50.below hw53 hk50.lt
 have hB57 := btr hB52 hw53
 refine WL.nil <| ?_
 refine ⟨hS54, ?_⟩
 refine WH.tp 12 rfl (.cat rfl rfl (by simp only [List.length_append, List.length_cons, List.length_nil] <;> omega)) hS54 rfl ?_
 refine WH.tp 13 rfl (.as rfl) hS54 rfl ?_
 refine WH.done kR ?_
 refine W.reg <| WL.m rfl rfl <| WL.p (.iis (((k + 1 : Nat) : Int)) (.add rfl rfl (i64w oO)) oO) rfl <| WL.z rfl rfl ?_
 exact ⟨k + 1, ⟨rfl, lk_s rfl (by rw [ptT_succ hkl]; simp only [List.append_assoc]), rfl, rfl, rfl, trivial⟩, ⟨hB57, hk55, by ((try simp only) <;> omega)⟩, by ((try simp only) <;> omega)⟩
 have h42' := dF h42
 have hp3 : ptT l[i] k = numT l[i].fP_0.fX ++ numT l[i].fP_0.fY ++ (numT l[i].fP_1.fX ++ numT l[i].fP_1.fY) ++ (numT l[i].fP_2.fX ++ numT l[i].fP_2.fY) := by rw [show k = 3 by omega]; simp [ptT]
 refine W.exit <| W.reg <| WL.m rfl rfl <| WL.p (.iis (((i + 1 : Nat) : Int)) (.add rfl rfl (i64w oO)) oO) rfl <| WL.z rfl rfl ?_
 first
 | exact ⟨i + 1, ⟨rfl, lk_s rfl (by rw [hft, segT, if_pos aS]; simp only [List.append_assoc, List.cons_append, List.nil_append, List.getElem_cons_zero]), rfl, trivial⟩, ⟨hT2, by ((try simp only) <;> omega)⟩, by ((try simp only) <;> omega)⟩
 | exact ⟨i + 1, ⟨rfl, lk_s rfl (by rw [hft, segT, if_neg oO, if_pos aS]; simp only [List.append_assoc, List.cons_append, List.nil_append, List.getElem_cons_zero]), rfl, trivial⟩, ⟨hT2, by ((try simp only) <;> omega)⟩, by ((try simp only) <;> omega)⟩
 | exact ⟨i + 1, ⟨rfl, lk_s rfl (by rw [hft, segT, if_neg oO, if_neg oO, if_pos aS, hp3]; simp only [List.append_assoc, List.cons_append, List.nil_append]), rfl, trivial⟩, ⟨hT2, by ((try simp only) <;> omega)⟩, by ((try simp only) <;> omega)⟩
 | exact ⟨i + 1, ⟨rfl, lk_s rfl (by rw [hft, segT, if_neg oO, if_neg oO, if_neg oO]), rfl, trivial⟩, ⟨hT2, by ((try simp only) <;> omega)⟩, by ((try simp only) <;> omega)⟩
 have h41' := dF h41
 refine W.reg <| WL.m rfl rfl <| WL.p (.cat rfl rfl (by simp only [List.length_append, List.length_cons, List.length_nil] <;> omega)) rfl <| WL.z rfl rfl ?_
 refine W.reg <| WL.m rfl rfl <| WL.p (.iis (((i + 1 : Nat) : Int)) (.add rfl rfl (i64w oO)) oO) rfl <| WL.z rfl rfl ?_
 first
 | exact ⟨i + 1, ⟨rfl, lk_s rfl (by rw [hft, segT, if_pos aS]; simp only [List.append_assoc, List.cons_append, List.nil_append, List.getElem_cons_zero]), rfl, trivial⟩, ⟨hB8, by ((try simp only) <;> omega)⟩, by ((try simp only) <;> omega)⟩
 | exact ⟨i + 1, ⟨rfl, lk_s rfl (by rw [hft, segT, if_neg oO, if_pos aS]; simp only [List.append_assoc, List.cons_append, List.nil_append, List.getElem_cons_zero]), rfl, trivial⟩, ⟨hB8, by ((try simp only) <;> omega)⟩, by ((try simp only) <;> omega)⟩
 | exact ⟨i + 1, ⟨rfl, lk_s rfl (by rw [hft, segT, if_neg oO, if_neg oO, if_pos aS, hp3]; simp only [List.append_assoc, List.cons_append, List.nil_append]), rfl, trivial⟩, ⟨hB8, by ((try simp only) <;> omega)⟩, by ((try simp only) <;> omega)⟩
 | exact ⟨i + 1, ⟨rfl, lk_s rfl (by rw [hft, segT, if_neg oO, if_neg oO, if_neg oO]), rfl, trivial⟩, ⟨hB8, by ((try simp only) <;> omega)⟩, by ((try simp only) <;> omega)⟩
 have h1' := dF h1
 refine W.exit <| W.sr <| WL.m rfl rfl <| WL.z rfl rfl ?_
 refine W.ret (W.ret1 rfl rfl ?_)
 exact ⟨by rw [List.take_of_length_le oO], hT⟩
end
section
def smT (n : Int) : List UInt8 := 32 :: decL n
theorem decL_le (n : Int) (h : -9223372036854775808 ≤ n) (h' : n ≤ 9223372036854775807) : (decL n).length ≤ 21 := by
 have := decL_size n h h'; rw [bs_size] at this; exact this
theorem wf_i64 {n : Int} (h : (Lit.int .i64 n).wf = true) : -9223372036854775808 ≤ n ∧ n ≤ 9223372036854775807 := by
 simp only [Lit.wf, Bool.and_eq_true, decide_eq_true_eq] at h; exact h
def digS : List UInt8 := [48, 49, 50, 51, 52, 53, 54, 55, 56, 57, 97, 98, 99, 100, 101, 102]
def hexT (c : UInt8) : List UInt8 := (digS.drop (c.toNat / 16)).take (c.toNat / 16 + 1 - c.toNat / 16) ++ (digS.drop (c.toNat % 16)).take (c.toNat % 16 + 1 - c.toNat % 16)
theorem hexT_len (c : UInt8) : (hexT c).length ≤ 2 := by
 unfold hexT; simp only [List.length_append, List.length_take]; omega
theorem fm_len {α : Type} {g : α → List UInt8} {k : Nat} (hg : ∀ x, (g x).length ≤ k) : ∀ l : List α, (l.flatMap g).length ≤ k * l.length
 | [] => by simp
 | x :: l => by
  have h1 := fm_len hg l
  have h2 := hg x
  simp only [List.flatMap_cons, List.length_append, List.length_cons]
  rw [Nat.mul_succ]; omega
theorem fm_take_len {α : Type} {g : α → List UInt8} {k : Nat} (hg : ∀ x, (g x).length ≤ k) (l : List α) (i : Nat) : ((l.take i).flatMap g).length ≤ k * l.length := by
 have h1 := fm_len hg (l.take i)
 have h2 : (l.take i).length ≤ l.length := by rw [List.length_take]; omega
 exact Nat.le_trans h1 (Nat.mul_le_mul_left _ h2)
def numsT (l : List Int) : List UInt8 := l.flatMap numT
def colorT (c : ColorV) : List UInt8 := smT c.fSpace ++ numsT ((parts c).take c.fSpace.toNat)
def penT (p : PenV) : List UInt8 := numT p.fWidth ++ smT p.fCap ++ smT p.fJoin ++ numT p.fMiter ++ smT (p.fDash.length : Int) ++ numsT p.fDash ++ numT p.fPhase
def clipT (c : ClipV) : List UInt8 := (if c.fEvenOdd then [101, 111] else []) ++ [99, 108, 105, 112] ++ pathT c.fPath ++ [10]
def headT (k : Int) : List UInt8 := if k = 1 then [102, 105, 108, 108] else if k = 2 then [101, 111, 102, 105, 108, 108] else if k = 3 then [115, 116, 114, 111, 107, 101] else [116, 101, 120, 116]
def itemT (x : ItemV) : List UInt8 := x.fClips.flatMap clipT ++ headT x.fKind ++ colorT x.fColor ++
 (if x.fKind = 4 then smT x.fFont ++ numsT (mats x) ++ ([32, 120] ++ x.fBytes.flatMap hexT) else (if x.fKind = 3 then penT x.fPen else []) ++ pathT x.fPath) ++ [10]
theorem itemB_kind {x : ItemV} (h : itemB x = true) : 1 ≤ x.fKind ∧ x.fKind ≤ 4 ∧ (x.fColor.fSpace = 1 ∨ x.fColor.fSpace = 3 ∨ x.fColor.fSpace = 4) ∧ (x.fClips.length : Int) ≤ 16 := by
 unfold itemB at h
 simp only [Bool.and_eq_true] at h
 obtain ⟨⟨hc, hl⟩, hk⟩ := h
 unfold colorB spaceB at hc
 unfold clipsB at hl
 simp only [Bool.and_eq_true, decide_eq_true_eq] at hl
 refine ⟨?_, ?_, ?_, hl.1⟩
 ·
  by_cases h4 : x.fKind = 4
  ·
   omega
  ·
   rw [if_neg h4, Bool.and_eq_true] at hk
   by_cases h12 : x.fKind = 1 ∨ x.fKind = 2
   ·
    omega
   ·
    rw [if_neg h12] at hk
    by_cases h3 : x.fKind = 3
    ·
     omega
    ·
     rw [if_neg h3] at hk; cases hk.2
 ·
  by_cases h4 : x.fKind = 4
  ·
   omega
  ·
   rw [if_neg h4, Bool.and_eq_true] at hk
   by_cases h12 : x.fKind = 1 ∨ x.fKind = 2
   ·
    omega
   ·
    rw [if_neg h12] at hk
    by_cases h3 : x.fKind = 3
    ·
     omega
    ·
     rw [if_neg h3] at hk; cases hk.2
 ·
  simp only [Bool.and_eq_true, Bool.not_eq_true', Bool.and_eq_false_iff, Bool.not_eq_false', decide_eq_true_eq] at hc
  have := hc.1; omega
theorem clipT_len (c : ClipV) (h : c.fPath.length ≤ 1048576) : (clipT c).length ≤ 400000000 := by
 have := pathT_len c.fPath
 unfold clipT; split <;> simp only [List.length_append, List.length_cons, List.length_nil] <;> omega
theorem clipsT_len (l : List ClipV) (h : ∀ c ∈ l, c.fPath.length ≤ 1048576) (i : Nat) (hi : i ≤ l.length) : ((l.take i).flatMap clipT).length ≤ 400000000 * i := by
 induction i with
 | zero => simp
 | succ i ih =>
  have h1 := ih oO
  have h2 := clipT_len l[i] (h _ (List.getElem_mem oO))
  rw [flatMap_take oO, List.length_append]; omega
end
section
theorem cparts_row {w : World} {b : Nat} {t : TypeId} {x : ItemV} (h : Blk w b (itemV x).toArray t) : RowAt intV w (some ⟨b, 3, none⟩) (parts x.fColor) := ⟨fun _ => rfl, fun j hj => by
 show w.cell? ((⟨b, 3, none⟩ : Addr).add j) = _
 have h' : j < 4 := hj
 rw [add_lit, h.cell]
 obtain rfl | rfl | rfl | rfl : j = 0 ∨ j = 1 ∨ j = 2 ∨ j = 3 := by omega
 all_goals rfl⟩
def headsL : List (List UInt8) := [[], [102, 105, 108, 108], [101, 111, 102, 105, 108, 108], [115, 116, 114, 111, 107, 101], [116, 101, 120, 116]]
theorem headsL_at {k : Int} (h1 : 1 ≤ k) (h4 : k ≤ 4) (h : k.toNat < headsL.length) : headsL[k.toNat] = headT k := by
 obtain rfl | rfl | rfl | rfl : k = 1 ∨ k = 2 ∨ k = 3 ∨ k = 4 := by omega
 all_goals rfl
theorem headT_len (k : Int) : (headT k).length ≤ 6 := by unfold headT; split; decide; split; decide; split <;> decide
set_option maxHeartbeats 3200000 in
theorem ref_item (x : ItemV) (w : World) (hx : ItemOk w x) (hs : ItemS x) (hk : itemB x = true) : Calls Tryz.prog 58 #[.agg (itemV x).toArray] w fun e w' => e = .returned (.string (bs (itemT x))) ∧ Below w.heap.size w w' := by
 obtain ⟨hk1, hk4, hsp, hc16⟩ := itemB_kind hk
 have hcl := hs.clips; have hpa := hs.path; have hby := hs.bytes; have hda := hs.dash
 have hhl := headT_len x.fKind
 have hsl : (decL x.fColor.fSpace).length ≤ 21 := decL_le _ oO oO
 have hfl := decL_le _ (wf_i64 hx.wf_fFont).1 (wf_i64 hx.wf_fFont).2
 have hnl := fun n => numT_len n
 have hpl := pathT_len x.fPath
 have hheads : x.fKind.toNat < headsL.length := by simp [headsL]; omega
 have hrl : 0 < x.fClips.length → (pA x.pfClips).block < w.heap.size := fun h0 => hx.row_fClips.lt h0
 have hrb : 0 < x.fBytes.length → (pA x.pfBytes).block < w.heap.size := fun h0 => hx.row_fBytes.lt h0
 have hrd : 0 < x.fPen.fDash.length → (pA x.fPen.pfDash).block < w.heap.size := fun h0 => hx.ok_fPen.row_fDash.lt h0
 refine W.enter func58 rfl ntmps58 (Nat.le_of_ble_eq_true rfl) ?_
 have hB0 := Below.refl (w.heap.size) w
 refine W.sr <| WL.box rfl rfl (fun b1 wb1 eb1 hkb1 hub1 hsb1 => ?_)
 have hB2 := Upd.below hB0 (by rw [eb1]; exact hB0.size) hub1
 have hgeb1 : w.heap.size ≤ b1 := by rw [eb1]; exact hB0.size
 refine WL.z rfl rfl ?_
 refine W.sr <| WL.z rfl rfl ?_
 refine W.seq <| W.sr <| WL.z rfl rfl ?_
 refine W.block ?_
 refine W.loop (α := Nat) (fun t => [(1, .pointer (some ⟨b1, 0, none⟩)), (3, .string (bs ((x.fClips.take t).flatMap clipT))), (4, .int .i64 (t : Int))]) (fun t w' => Below w.heap.size w w' ∧ Blk w' b1 (itemV x).toArray 87 ∧ t ≤ x.fClips.length) (fun t => x.fClips.length - t) (0) ⟨rfl, rfl, rfl, trivial⟩ (⟨hB2, hkb1, Nat.zero_le _⟩) (fun t w1 hR => ?_)
 obtain ⟨i, rfl⟩ : ∃ i, i = t := ⟨t, rfl⟩
 obtain ⟨hT, hk1', hi⟩ := hR
 have hrc := (hx.below hT).row_fClips
 have hcsl := clipsT_len x.fClips hs.each i hi
 refine W.seq <| W.sr <| WL.m rfl rfl <| WL.p (.fa underlying87 rfl sizeOf81 dD rfl) rfl <| WL.r (Rd.ld (isAgg81 _) rfl hk1' rfl) rfl <| WL.p (.lenS underlying81 rfl) rfl <| WL.p (.lss rfl rfl) rfl <| WL.nil <| ?_
 refine W.cond rfl (fun h3 => ?_) (fun h3 => ?_)
 have h3' := dT h3
 have hil : i < x.fClips.length := by omega
 have hxi := hx.all_fClips _ (List.getElem_mem hil)
 have hxp := hs.each _ (List.getElem_mem hil)
 have hcpl := pathT_len x.fClips[i].fPath
 have hft : (x.fClips.take (i + 1)).flatMap clipT = (x.fClips.take i).flatMap clipT ++ clipT x.fClips[i] := flatMap_take hil
 refine W.skip <| W.seq <| W.block ?_
 refine W.cut (α := Unit) (fun t => [(1, .pointer (some ⟨b1, 0, none⟩)), (3, .string (bs ((x.fClips.take i).flatMap clipT ++ (if x.fClips[i].fEvenOdd then [101, 111] else [])))), (4, .int .i64 (i : Int))]) (fun t w' => w1 = w') ?_ (fun t w1 hR => ?_)
 refine W.sr <| WL.p (.fa underlying87 rfl sizeOf81 dD rfl) rfl <| WL.r (Rd.ld (isAgg81 _) rfl hk1' rfl) rfl <| WL.m rfl rfl <| WL.p (.ixm underlying81 sizeOf89 rfl rfl (hrc.isp oO) (i) (rfl) oO) rfl <| WL.p (.fa underlying89 rfl sizeOf4 dD rfl) rfl <| WL.r (Rd.ldc (isAgg4 _) rfl ((hrc.field (i) oO 1 dD).trans rfl)) rfl <| WL.nil <| ?_
 refine W.cond rfl (fun h4 => ?_) (fun h4 => ?_)
 refine W.reg <| WL.m rfl rfl <| WL.p (.cat rfl rfl (by (try simp only [List.length_append, List.length_cons, List.length_nil]) <;> omega)) rfl <| WL.z rfl rfl ?_
 first
 | exact ⟨(), ⟨rfl, lk_s rfl (by rw [if_pos aS]), rfl, trivial⟩, rfl⟩
 | exact ⟨(), ⟨rfl, lk_s rfl (by rw [if_neg (by simp_all), List.append_nil]), rfl, trivial⟩, rfl⟩
 refine W.skip ?_
 first
 | exact ⟨(), ⟨rfl, lk_s rfl (by rw [if_pos aS]), rfl, trivial⟩, rfl⟩
 | exact ⟨(), ⟨rfl, lk_s rfl (by rw [if_neg (by simp_all), List.append_nil]), rfl, trivial⟩, rfl⟩
 obtain rfl := hR
 have hel : (if x.fClips[i].fEvenOdd then ([101, 111] : List UInt8) else []).length ≤ 2 := by split <;> decide
 refine W.reg <| WL.m rfl rfl <| WL.p (.cat rfl rfl (by (try simp only [List.length_append, List.length_cons, List.length_nil]) <;> omega)) rfl <| WL.p (.fa underlying87 rfl sizeOf81 dD rfl) rfl <| WL.r (Rd.ld (isAgg81 _) rfl hk1' rfl) rfl <| WL.m rfl rfl <| WL.p (.ixm underlying81 sizeOf89 rfl rfl (hrc.isp oO) (i) (rfl) oO) rfl <| WL.p (.fa underlying89 rfl sizeOf77 dD rfl) rfl <| WL.r (Rd.ldc (isAgg77 _) rfl ((hrc.field (i) oO 0 dD).trans rfl)) rfl <| WL.c1 hb101 rfl rfl ((ref_path _ _ _ _ (hxi.below hT).row_fPath hxp)) (fun w5 hw5 => ?_)
 have hk6 := hk1'.below hw5 hk1'.lt
 have hB8 := btr hT hw5
 refine WL.p (.cat rfl rfl (by (try simp only [List.length_append, List.length_cons, List.length_nil]) <;> omega)) rfl <| WL.p (.cat rfl rfl (by (try simp only [List.length_append, List.length_cons, List.length_nil]) <;> omega)) rfl <| WL.z rfl rfl ?_
 refine W.reg <| WL.m rfl rfl <| WL.p (.iis (((i + 1 : Nat) : Int)) (.add rfl rfl (i64w oO)) oO) rfl <| WL.z rfl rfl ?_
 exact ⟨i + 1, ⟨rfl, lk_s rfl (by rw [hft, clipT]; simp only [List.append_assoc]), rfl, trivial⟩, ⟨hB8, hk6, by ((try simp only) <;> omega)⟩, by ((try simp only) <;> omega)⟩
 have h3' := dF h3
 have hcall : (x.fClips.take i).flatMap clipT = x.fClips.flatMap clipT := by rw [List.take_of_length_le oO]
 refine W.exit ?_
 refine W.cut (α := Unit) (fun t => [(1, .pointer (some ⟨b1, 0, none⟩)), (3, .string (bs (x.fClips.flatMap clipT ++ headT x.fKind ++ smT x.fColor.fSpace)))]) (fun t w' => Below w.heap.size w w' ∧ Blk w' b1 (itemV x).toArray 87) ?_ (fun t w1 hR => ?_)
 refine W.regH 14 rfl mixed (fun w' => Below w1.heap.size w1 w') (fun w9 dw9 => ?_)
 have hk10 := hk1'.drew dw9
 have hB12 := Drew.below hT dw9
 have hS13 : Below w1.heap.size w1 w9 := Drew.below (Below.refl _ _) dw9
 refine WH.tp 0 rfl (.mv rfl) hS13 rfl ?_
 refine WH.tp 2 rfl (.fa underlying87 rfl sizeOf3 dD rfl) hS13 rfl ?_
 refine WH.tk 3 rfl (fun w' hw' => Rd.ld (isAgg3 _) rfl (hk1'.below hw' hk1'.lt) rfl) hS13 rfl ?_
 refine WH.tp 8 rfl (.fa underlying87 rfl sizeOf80 dD rfl) hS13 rfl ?_
 refine WH.tp 9 rfl (.fa underlying80 rfl sizeOf3 dD rfl) hS13 rfl ?_
 refine WH.tk 10 rfl (fun w' hw' => Rd.ld (isAgg3 _) rfl (hk1'.below hw' hk1'.lt) rfl) hS13 rfl ?_
 refine WH.br2 1 rfl 11 rfl ?_ ?_
 refine WL.bsl (ps := _) underlying28 sizeOf9 zeroValue9 rfl rfl rfl rfl rfl pR rfl (fun b14 wb14 eb14 hkb14 hub14 hsb14 => ?_)
 have hS15 := Upd.below hS13 (by rw [eb14]; exact hS13.size) hub14
 have hl17 : b1 < b14 := by rw [eb14]; exact hk10.lt
 have hk16 := hk10.upd hub14 (Nat.ne_of_lt hl17)
 have hB20 := Upd.below hB12 (by rw [eb14]; exact hB12.size) hub14
 have hgeb14 : w.heap.size ≤ b14 := by rw [eb14]; exact hB12.size
 have hhd := RowAt.lit (V := strV) (l := headsL) hkb14 (rfl)
 refine WL.nil <| ?_
 refine ⟨hS15, ?_⟩
 refine WH.tp 4 rfl (.ixb underlying28 sizeOf9 rfl rfl (hhd.isp oO) (x.fKind.toNat) oO (hheads)) hS15 rfl ?_
 refine WH.br2 5 rfl 11 rfl ?_ ?_
 refine WL.r (Rd.ldc (isAgg9 _) rfl ((hhd.cells (x.fKind.toNat) oO).trans (congrArg (fun s => some (Value.string (bs s))) (headsL_at hk1 hk4 hheads)))) rfl <| WL.nil <| ?_
 refine ⟨hS15, ?_⟩
 refine WH.tp 6 rfl (.cat rfl rfl (by (try simp only [List.length_append, List.length_cons, List.length_nil]) <;> omega)) hS15 rfl ?_
 refine WH.tp 7 rfl (.cat rfl rfl (by (try simp only [List.length_append, List.length_cons, List.length_nil]) <;> omega)) hS15 rfl ?_
 refine WH.br1 11 rfl ?_
 refine WL.c1 hb37 rfl rfl ((ref_Dec _ _ oO oO)) (fun w21 hw21 => ?_)
 have hS22 := Below.trans hS15 (Below.mono hw21 hS15.size)
 have hk23 := hk16.below hw21 hk16.lt
 have hB26 := btr hB20 hw21
 refine WL.nil <| ?_
 refine ⟨hS22, ?_⟩
 refine WH.tp 12 rfl (.cat rfl rfl (by (try simp only [List.length_append, List.length_cons, List.length_nil]) <;> omega)) hS22 rfl ?_
 refine WH.tp 13 rfl (.as rfl) hS22 rfl ?_
 refine WH.done kR ?_
 exact ⟨(), ⟨rfl, lk_s rfl (by rw [hcall]; simp only [smT, List.append_assoc, List.cons_append, List.nil_append]), trivial⟩, hB26, hk23⟩
 refine WL.c1 hb37 rfl rfl ((ref_Dec _ _ oO oO)) (fun w27 hw27 => ?_)
 have hS28 := Below.trans hS15 (Below.mono hw27 hS15.size)
 have hk29 := hk16.below hw27 hk16.lt
 have hv31 := RowAt.below hhd hw27 (fun h0 => hhd.lt h0)
 have hB32 := btr hB20 hw27
 refine WL.nil <| ?_
 refine ⟨hS28, ?_⟩
 refine WH.br1 5 rfl ?_
 refine WL.r (Rd.ldc (isAgg9 _) rfl ((hv31.cells (x.fKind.toNat) oO).trans (congrArg (fun s => some (Value.string (bs s))) (headsL_at hk1 hk4 hheads)))) rfl <| WL.nil <| ?_
 refine ⟨hS28, ?_⟩
 refine WH.tp 6 rfl (.cat rfl rfl (by (try simp only [List.length_append, List.length_cons, List.length_nil]) <;> omega)) hS28 rfl ?_
 refine WH.tp 7 rfl (.cat rfl rfl (by (try simp only [List.length_append, List.length_cons, List.length_nil]) <;> omega)) hS28 rfl ?_
 refine WH.tp 12 rfl (.cat rfl rfl (by (try simp only [List.length_append, List.length_cons, List.length_nil]) <;> omega)) hS28 rfl ?_
 refine WH.tp 13 rfl (.as rfl) hS28 rfl ?_
 refine WH.done kR ?_
 exact ⟨(), ⟨rfl, lk_s rfl (by rw [hcall]; simp only [smT, List.append_assoc, List.cons_append, List.nil_append]), trivial⟩, hB32, hk29⟩
 refine WL.c1 hb37 rfl rfl ((ref_Dec _ _ oO oO)) (fun w33 hw33 => ?_)
 have hS34 := Below.trans hS13 (Below.mono hw33 hS13.size)
 have hk35 := hk10.below hw33 hk10.lt
 have hB37 := btr hB12 hw33
 refine WL.nil <| ?_
 refine ⟨hS34, ?_⟩
 refine WH.br1 1 rfl ?_
 refine WL.bsl (ps := _) underlying28 sizeOf9 zeroValue9 rfl rfl rfl rfl rfl pR rfl (fun b38 wb38 eb38 hkb38 hub38 hsb38 => ?_)
 have hS39 := Upd.below hS34 (by rw [eb38]; exact hS34.size) hub38
 have hl41 : b1 < b38 := by rw [eb38]; exact hk35.lt
 have hk40 := hk35.upd hub38 (Nat.ne_of_lt hl41)
 have hB44 := Upd.below hB37 (by rw [eb38]; exact hB37.size) hub38
 have hgeb38 : w.heap.size ≤ b38 := by rw [eb38]; exact hB37.size
 have hhd := RowAt.lit (V := strV) (l := headsL) hkb38 (rfl)
 refine WL.nil <| ?_
 refine ⟨hS39, ?_⟩
 refine WH.tp 4 rfl (.ixb underlying28 sizeOf9 rfl rfl (hhd.isp oO) (x.fKind.toNat) oO (hheads)) hS39 rfl ?_
 refine WH.br1 5 rfl ?_
 refine WL.r (Rd.ldc (isAgg9 _) rfl ((hhd.cells (x.fKind.toNat) oO).trans (congrArg (fun s => some (Value.string (bs s))) (headsL_at hk1 hk4 hheads)))) rfl <| WL.nil <| ?_
 refine ⟨hS39, ?_⟩
 refine WH.tp 6 rfl (.cat rfl rfl (by (try simp only [List.length_append, List.length_cons, List.length_nil]) <;> omega)) hS39 rfl ?_
 refine WH.tp 7 rfl (.cat rfl rfl (by (try simp only [List.length_append, List.length_cons, List.length_nil]) <;> omega)) hS39 rfl ?_
 refine WH.tp 12 rfl (.cat rfl rfl (by (try simp only [List.length_append, List.length_cons, List.length_nil]) <;> omega)) hS39 rfl ?_
 refine WH.tp 13 rfl (.as rfl) hS39 rfl ?_
 refine WH.done kR ?_
 exact ⟨(), ⟨rfl, lk_s rfl (by rw [hcall]; simp only [smT, List.append_assoc, List.cons_append, List.nil_append]), trivial⟩, hB44, hk40⟩
 obtain ⟨hj1, hj2⟩ := hR
 have hca : (x.fClips.flatMap clipT).length ≤ 6400000000 := by rw [← hcall]; omega
 have hsm : (smT x.fColor.fSpace).length ≤ 22 := by unfold smT; simp only [List.length_cons]; omega
 refine W.seq <| W.sr <| WL.z rfl rfl ?_
 refine W.block ?_
 refine W.loop (α := Nat) (fun t => [(1, .pointer (some ⟨b1, 0, none⟩)), (3, .string (bs (x.fClips.flatMap clipT ++ headT x.fKind ++ smT x.fColor.fSpace ++ numsT ((parts x.fColor).take t)))), (5, .int .i64 (t : Int))]) (fun t w' => Below w.heap.size w w' ∧ Blk w' b1 (itemV x).toArray 87 ∧ t ≤ x.fColor.fSpace.toNat) (fun t => x.fColor.fSpace.toNat - t) (0) ⟨rfl, lk_s rfl (by simp [numsT]), rfl, trivial⟩ (⟨hj1, hj2, Nat.zero_le _⟩) (fun t w1 hR => ?_)
 obtain ⟨k, rfl⟩ : ∃ k, k = t := ⟨t, rfl⟩
 obtain ⟨hT2, hk2, hkk⟩ := hR
 have hpt := fm_take_len numT_len (parts x.fColor) k
 have hp4 : (parts x.fColor).length = 4 := rfl
 rw [hp4] at hpt
 refine W.seq <| W.sr <| WL.m rfl rfl <| WL.p (.fa underlying87 rfl sizeOf80 dD rfl) rfl <| WL.p (.fa underlying80 rfl sizeOf3 dD rfl) rfl <| WL.r (Rd.ld (isAgg3 _) rfl hk2 rfl) rfl <| WL.p (.lss rfl rfl) rfl <| WL.nil <| ?_
 refine W.cond rfl (fun h45 => ?_) (fun h45 => ?_)
 have h45' := dT h45
 have hkp : k < (parts x.fColor).length := by omega
 have hnk := hnl ((parts x.fColor)[k])
 have hptk : numsT ((parts x.fColor).take (k + 1)) = numsT ((parts x.fColor).take k) ++ numT ((parts x.fColor)[k]) := flatMap_take hkp
 refine W.skip <| W.seq <| W.block <| W.reg <| WL.m rfl rfl <| WL.m rfl rfl <| WL.p (.fa underlying87 rfl sizeOf80 dD rfl) rfl <| WL.p (.fa underlying80 rfl sizeOf78 dD rfl) rfl <| WL.p (.ixr1 underlying78 sizeOf3 rfl rfl (k) (rfl) oO) rfl <| WL.r (Rd.ldc (isAgg3 _) rfl ((cparts_row hk2).cells (k) oO)) rfl <| WL.c1 hb57 rfl rfl ((ref_num _ _)) (fun w46 hw46 => ?_)
 have hk47 := hk2.below hw46 hk2.lt
 have hB48 := btr hT2 hw46
 refine WL.p (.cat rfl rfl (by simp only [List.length_append, numsT]; omega)) rfl <| WL.z rfl rfl ?_
 refine W.reg <| WL.m rfl rfl <| WL.p (.iis (((k + 1 : Nat) : Int)) (.add rfl rfl (i64w oO)) oO) rfl <| WL.z rfl rfl ?_
 exact ⟨k + 1, ⟨rfl, lk_s rfl (by rw [hptk]; simp only [List.append_assoc]), rfl, trivial⟩, ⟨hB48, hk47, by ((try simp only) <;> omega)⟩, by ((try simp only) <;> omega)⟩
 have h45' := dF h45
 have hke : k = x.fColor.fSpace.toNat := by omega
 subst hke
 have hpt' : (numsT ((parts x.fColor).take x.fColor.fSpace.toNat)).length ≤ 244 := by unfold numsT; omega
 have hfm : (smT x.fFont).length ≤ 22 := by unfold smT; simp only [List.length_cons]; omega
 refine W.exit <| W.seq <| W.sr <| WL.p (.fa underlying87 rfl sizeOf3 dD rfl) rfl <| WL.r (Rd.ld (isAgg3 _) rfl hk2 rfl) rfl <| WL.p (.eql rfl rfl) rfl <| WL.nil <| ?_
 refine W.cond rfl (fun h49 => ?_) (fun h49 => ?_)
 have h49' := dT h49
 refine W.sr <| WL.m rfl rfl <| WL.p (.cat rfl rfl (by (try simp only [List.length_append, List.length_cons, List.length_nil]) <;> omega)) rfl <| WL.p (.fa underlying87 rfl sizeOf3 dD rfl) rfl <| WL.r (Rd.ld (isAgg3 _) rfl hk2 rfl) rfl <| WL.c1 hb37 rfl rfl ((ref_Dec _ _ (wf_i64 hx.wf_fFont).1 (wf_i64 hx.wf_fFont).2)) (fun w50 hw50 => ?_)
 have hk51 := hk2.below hw50 hk2.lt
 have hB52 := btr hT2 hw50
 refine WL.p (.cat rfl rfl (by (try simp only [List.length_append, List.length_cons, List.length_nil]) <;> omega)) rfl <| WL.z rfl rfl ?_
 refine W.seq <| W.sr <| WL.z rfl rfl ?_
 refine W.block ?_
 refine W.loop (α := Nat) (fun t => [(1, .pointer (some ⟨b1, 0, none⟩)), (3, .string (bs (x.fClips.flatMap clipT ++ headT x.fKind ++ smT x.fColor.fSpace ++ numsT ((parts x.fColor).take x.fColor.fSpace.toNat) ++ smT x.fFont ++ numsT ((mats x).take t)))), (6, .int .i64 (t : Int))]) (fun t w' => Below w.heap.size w w' ∧ Blk w' b1 (itemV x).toArray 87 ∧ t ≤ 6) (fun t => 6 - t) (0) ⟨rfl, lk_s rfl (by simp [numsT, smT]), rfl, trivial⟩ (⟨hB52, hk51, by decide⟩) (fun t w1 hR => ?_)
 obtain ⟨m, rfl⟩ : ∃ k, k = t := ⟨t, rfl⟩
 obtain ⟨hT3, hk3, hm⟩ := hR
 have hmt := fm_take_len numT_len (mats x) m
 have hp6 : (mats x).length = 6 := rfl
 rw [hp6] at hmt
 refine W.seq <| W.sr <| WL.m rfl rfl <| WL.p (.lss rfl rfl) rfl <| WL.nil <| ?_
 refine W.cond rfl (fun h53 => ?_) (fun h53 => ?_)
 have h53' := dT h53
 have hml : m < (mats x).length := by omega
 have hnm := hnl ((mats x)[m])
 have hmtk : numsT ((mats x).take (m + 1)) = numsT ((mats x).take m) ++ numT ((mats x)[m]) := flatMap_take hml
 refine W.skip <| W.seq <| W.block <| W.reg <| WL.m rfl rfl <| WL.m rfl rfl <| WL.p (.fa underlying87 rfl sizeOf85 dD rfl) rfl <| WL.p (.ixr1 underlying85 sizeOf3 rfl rfl (m) (rfl) oO) rfl <| WL.r (Rd.ldc (isAgg3 _) rfl ((mats_row hk3).cells (m) oO)) rfl <| WL.c1 hb57 rfl rfl ((ref_num _ _)) (fun w54 hw54 => ?_)
 have hk55 := hk3.below hw54 hk3.lt
 have hB56 := btr hT3 hw54
 refine WL.p (.cat rfl rfl (by simp only [List.length_append, numsT] at *; omega)) rfl <| WL.z rfl rfl ?_
 refine W.reg <| WL.m rfl rfl <| WL.p (.iis (((m + 1 : Nat) : Int)) (.add rfl rfl (i64w oO)) oO) rfl <| WL.z rfl rfl ?_
 exact ⟨m + 1, ⟨rfl, lk_s rfl (by rw [hmtk]; simp only [List.append_assoc]), rfl, trivial⟩, ⟨hB56, hk55, by ((try simp only) <;> omega)⟩, by ((try simp only) <;> omega)⟩
 have h53' := dF h53
 have hme : (mats x).take m = mats x := List.take_of_length_le oO
 rw [hme] at hmt
 refine W.exit <| W.sr <| WL.m rfl rfl <| WL.p (.cat rfl rfl (by simp only [List.length_append, List.length_cons, List.length_nil, numsT, hme] at *; omega)) rfl <| WL.z rfl rfl ?_
 refine W.sr <| WL.z rfl rfl ?_
 refine W.seq <| W.sr <| WL.z rfl rfl ?_
 refine W.block ?_
 refine W.loop (α := Nat) (fun t => [(1, .pointer (some ⟨b1, 0, none⟩)), (3, .string (bs (x.fClips.flatMap clipT ++ headT x.fKind ++ smT x.fColor.fSpace ++ numsT ((parts x.fColor).take x.fColor.fSpace.toNat) ++ smT x.fFont ++ numsT (mats x) ++ [32, 120] ++ (x.fBytes.take t).flatMap hexT))), (7, .string (bs digS)), (8, .int .i64 (t : Int))]) (fun t w' => Below w.heap.size w w' ∧ Blk w' b1 (itemV x).toArray 87 ∧ t ≤ x.fBytes.length) (fun t => x.fBytes.length - t) (0) ⟨rfl, lk_s rfl (by rw [hme]; simp), rfl, rfl, trivial⟩ (⟨hT3, hk3, Nat.zero_le _⟩) (fun t w1 hR => ?_)
 obtain ⟨q, rfl⟩ : ∃ k, k = t := ⟨t, rfl⟩
 obtain ⟨hT4, hk4', hq⟩ := hR
 have hrby := (hx.below hT4).row_fBytes
 have hbt := fm_take_len hexT_len x.fBytes q
 have hmt' : (numsT (mats x)).length ≤ 366 := by unfold numsT; omega
 refine W.seq <| W.sr <| WL.m rfl rfl <| WL.p (.fa underlying87 rfl sizeOf22 dD rfl) rfl <| WL.r (Rd.ld (isAgg22 _) rfl hk4' rfl) rfl <| WL.p (.lenS underlying22 rfl) rfl <| WL.p (.lss rfl rfl) rfl <| WL.nil <| ?_
 refine W.cond rfl (fun h57 => ?_) (fun h57 => ?_)
 have h57' := dT h57
 have hql : q < x.fBytes.length := by omega
 have hbtk : (x.fBytes.take (q + 1)).flatMap hexT = (x.fBytes.take q).flatMap hexT ++ hexT x.fBytes[q] := flatMap_take hql
 have hcb := UInt8.toNat_lt x.fBytes[q]
 refine W.skip <| W.seq <| W.block <| W.sr <| WL.p (.fa underlying87 rfl sizeOf22 dD rfl) rfl <| WL.r (Rd.ld (isAgg22 _) rfl hk4' rfl) rfl <| WL.m rfl rfl <| WL.p (.ixb underlying22 sizeOf5 rfl rfl (hrby.isp oO) (q) (rfl) oO) rfl <| WL.r (Rd.ldc (isAgg5 _) rfl (hrby.cells (q) oO)) rfl <| WL.z rfl rfl ?_
 refine W.regQ mixed kR ?_
 refine WQ.p (.mv rfl) rfl <| WQ.p (.mv rfl) rfl <| WQ.p (.mv rfl) rfl <| WQ.p (.iis (((x.fBytes[q].toNat / 16 : Nat) : Int)) (.quo rfl rfl oO (u8q oO oO oO)) oO) rfl <| WQ.p (.mv rfl) rfl <| WQ.p (.iis (((x.fBytes[q].toNat / 16 : Nat) : Int)) (.quo rfl rfl oO (u8q oO oO oO)) oO) rfl <| WQ.p (.iis (((x.fBytes[q].toNat / 16 + 1 : Nat) : Int)) (.add rfl rfl (u8w oO)) oO) rfl <| WQ.p (.slS underlying9 rfl rfl rfl (x.fBytes[q].toNat / 16) (x.fBytes[q].toNat / 16 + 1) (rfl) (rfl) oO (by simp [digS]; omega)) rfl <| WQ.p (.cat rfl rfl (by simp only [List.length_append, List.length_take, List.length_cons, List.length_nil] at *; omega)) rfl <| WQ.p (.mv rfl) rfl <| WQ.p (.mv rfl) rfl <| WQ.p (.iis (((x.fBytes[q].toNat % 16 : Nat) : Int)) (.rem rfl rfl oO (Int.tmod_eq_emod_of_nonneg oO)) oO) rfl <| WQ.p (.mv rfl) rfl <| WQ.p (.iis (((x.fBytes[q].toNat % 16 : Nat) : Int)) (.rem rfl rfl oO (Int.tmod_eq_emod_of_nonneg oO)) oO) rfl <| WQ.p (.iis (((x.fBytes[q].toNat % 16 + 1 : Nat) : Int)) (.add rfl rfl (u8w oO)) oO) rfl <| WQ.p (.slS underlying9 rfl rfl rfl (x.fBytes[q].toNat % 16) (x.fBytes[q].toNat % 16 + 1) (rfl) (rfl) oO (by simp [digS]; omega)) rfl <| WQ.p (.cat rfl rfl (by simp only [List.length_append, List.length_take, List.length_cons, List.length_nil] at *; omega)) rfl <| WQ.p (.as rfl) rfl <| WQ.nil (fun w58 dw58 => ?_)
 have hk59 := hk4'.drew dw58
 have hB61 := Drew.below hT4 dw58
 refine W.reg <| WL.m rfl rfl <| WL.p (.iis (((q + 1 : Nat) : Int)) (.add rfl rfl (i64w oO)) oO) rfl <| WL.z rfl rfl ?_
 exact ⟨q + 1, ⟨rfl, lk_s rfl (by rw [hbtk, hexT]; simp only [List.append_assoc]), rfl, rfl, trivial⟩, ⟨hB61, hk59, by ((try simp only) <;> omega)⟩, by ((try simp only) <;> omega)⟩
 have h57' := dF h57
 have hbe : x.fBytes.take q = x.fBytes := List.take_of_length_le oO
 refine W.exit <| W.sr <| WL.m rfl rfl <| WL.p (.cat rfl rfl (by (try simp only [List.length_append, List.length_cons, List.length_nil]) <;> omega)) rfl <| WL.z rfl rfl ?_
 refine W.ret (W.ret1 rfl rfl ?_)
 first
 | exact ⟨ret_str (by rw [hbe, itemT, if_pos (show x.fKind = 4 by assumption), colorT]; simp only [List.append_assoc, List.cons_append, List.nil_append]), hT4⟩
 | exact ⟨ret_str (by rw [itemT, if_neg (show ¬ x.fKind = 4 by assumption), colorT]; simp only [List.append_assoc]), hT4⟩
 have h49' := dF h49
 refine W.skip ?_
 refine W.cut (α := Unit) (fun t => [(1, .pointer (some ⟨b1, 0, none⟩)), (3, .string (bs (x.fClips.flatMap clipT ++ headT x.fKind ++ smT x.fColor.fSpace ++ numsT ((parts x.fColor).take x.fColor.fSpace.toNat) ++ (if x.fKind = 3 then penT x.fPen else []))))]) (fun t w' => Below w.heap.size w w' ∧ Blk w' b1 (itemV x).toArray 87) ?_ (fun t w1 hR => ?_)
 refine W.sr <| WL.p (.fa underlying87 rfl sizeOf3 dD rfl) rfl <| WL.r (Rd.ld (isAgg3 _) rfl hk2 rfl) rfl <| WL.p (.eql rfl rfl) rfl <| WL.nil <| ?_
 refine W.cond rfl (fun h62 => ?_) (fun h62 => ?_)
 have h62' := dT h62
 have w1' := hnl x.fPen.fWidth; have w2' := hnl x.fPen.fMiter; have w3' := hnl x.fPen.fPhase
 have c1' := decL_le _ (wf_i64 hx.ok_fPen.wf_fCap).1 (wf_i64 hx.ok_fPen.wf_fCap).2
 have c2' := decL_le _ (wf_i64 hx.ok_fPen.wf_fJoin).1 (wf_i64 hx.ok_fPen.wf_fJoin).2
 have c3' := decL_le (x.fPen.fDash.length : Int) oO oO
 refine W.sr <| WL.p (.fa underlying87 rfl sizeOf84 dD rfl) rfl <| WL.r (Rd.ldF (L := penL) underlying84 rfl isz84 hk2 (x.fPen) (rfl) rfl) rfl <| WL.alloc zeroValue84 rfl (fun b63 wb63 eb63 hkb63 hub63 hsb63 => ?_)
 have hl65 : b1 < b63 := by rw [eb63]; exact hk2.lt
 have hk64 := hk2.upd hub63 (Nat.ne_of_lt hl65)
 have hB66 := Upd.below hT2 (by rw [eb63]; exact hT2.size) hub63
 have hgeb63 : w.heap.size ≤ b63 := by rw [eb63]; exact hT2.size
 refine WL.stL rfl rfl hkb63 isz84 rfl rfl (fun w67 hkw67 huw67 hsw67 => ?_)
 have hk68 := hk64.up huw67
 have hB69 := Upd.below hB66 oO huw67
 refine WL.nil <| ?_
 refine W.seq <| W.regH 26 rfl mixed (fun w' => Below w67.heap.size w67 w') (fun w70 dw70 => ?_)
 have hk71 := hk68.drew dw70
 have hk72 := hkw67.drew dw70
 have hB73 := Drew.below hB69 dw70
 have hS74 : Below w67.heap.size w67 w70 := Drew.below (Below.refl _ _) dw70
 refine WH.tp 0 rfl (.mv rfl) hS74 rfl ?_
 refine WH.tp 1 rfl (.fa underlying84 rfl sizeOf3 dD rfl) hS74 rfl ?_
 refine WH.tk 2 rfl (fun w' hw' => Rd.ld (isAgg3 _) rfl (hkw67.below hw' hkw67.lt) rfl) hS74 rfl ?_
 refine WH.tp 6 rfl (.fa underlying84 rfl sizeOf3 dD rfl) hS74 rfl ?_
 refine WH.tk 7 rfl (fun w' hw' => Rd.ld (isAgg3 _) rfl (hkw67.below hw' hkw67.lt) rfl) hS74 rfl ?_
 refine WH.tp 11 rfl (.fa underlying84 rfl sizeOf3 dD rfl) hS74 rfl ?_
 refine WH.tk 12 rfl (fun w' hw' => Rd.ld (isAgg3 _) rfl (hkw67.below hw' hkw67.lt) rfl) hS74 rfl ?_
 refine WH.tp 15 rfl (.fa underlying84 rfl sizeOf3 dD rfl) hS74 rfl ?_
 refine WH.tk 16 rfl (fun w' hw' => Rd.ld (isAgg3 _) rfl (hkw67.below hw' hkw67.lt) rfl) hS74 rfl ?_
 refine WH.tp 20 rfl (.fa underlying84 rfl sizeOf82 dD rfl) hS74 rfl ?_
 refine WH.tk 21 rfl (fun w' hw' => Rd.ld (isAgg82 _) rfl (hkw67.below hw' hkw67.lt) rfl) hS74 rfl ?_
 refine WH.tp 22 rfl (.lenS underlying82 rfl) hS74 rfl ?_
 refine WH.br1 3 rfl ?_
 refine WL.c1 hb57 rfl rfl ((ref_num _ _)) (fun w75 hw75 => ?_)
 have hS76 := Below.trans hS74 (Below.mono hw75 hS74.size)
 have hk77 := hk71.below hw75 hk71.lt
 have hk78 := hk72.below hw75 hk72.lt
 have hB79 := btr hB73 hw75
 refine WL.nil <| ?_
 refine ⟨hS76, ?_⟩
 refine WH.tp 4 rfl (.cat rfl rfl (by (try simp only [List.length_append, List.length_cons, List.length_nil]) <;> omega)) hS76 rfl ?_
 refine WH.tp 5 rfl (.cat rfl rfl (by (try simp only [List.length_append, List.length_cons, List.length_nil]) <;> omega)) hS76 rfl ?_
 refine WH.br1 8 rfl ?_
 refine WL.c1 hb37 rfl rfl ((ref_Dec _ _ (wf_i64 hx.ok_fPen.wf_fCap).1 (wf_i64 hx.ok_fPen.wf_fCap).2)) (fun w80 hw80 => ?_)
 have hS81 := Below.trans hS76 (Below.mono hw80 hS76.size)
 have hk82 := hk77.below hw80 hk77.lt
 have hk83 := hk78.below hw80 hk78.lt
 have hB84 := btr hB79 hw80
 refine WL.nil <| ?_
 refine ⟨hS81, ?_⟩
 refine WH.tp 9 rfl (.cat rfl rfl (by (try simp only [List.length_append, List.length_cons, List.length_nil]) <;> omega)) hS81 rfl ?_
 refine WH.tp 10 rfl (.cat rfl rfl (by (try simp only [List.length_append, List.length_cons, List.length_nil]) <;> omega)) hS81 rfl ?_
 refine WH.br1 13 rfl ?_
 refine WL.c1 hb37 rfl rfl ((ref_Dec _ _ (wf_i64 hx.ok_fPen.wf_fJoin).1 (wf_i64 hx.ok_fPen.wf_fJoin).2)) (fun w85 hw85 => ?_)
 have hS86 := Below.trans hS81 (Below.mono hw85 hS81.size)
 have hk87 := hk82.below hw85 hk82.lt
 have hk88 := hk83.below hw85 hk83.lt
 have hB89 := btr hB84 hw85
 refine WL.nil <| ?_
 refine ⟨hS86, ?_⟩
 refine WH.tp 14 rfl (.cat rfl rfl (by (try simp only [List.length_append, List.length_cons, List.length_nil]) <;> omega)) hS86 rfl ?_
 refine WH.br1 17 rfl ?_
 refine WL.c1 hb57 rfl rfl ((ref_num _ _)) (fun w90 hw90 => ?_)
 have hS91 := Below.trans hS86 (Below.mono hw90 hS86.size)
 have hk92 := hk87.below hw90 hk87.lt
 have hk93 := hk88.below hw90 hk88.lt
 have hB94 := btr hB89 hw90
 refine WL.nil <| ?_
 refine ⟨hS91, ?_⟩
 refine WH.tp 18 rfl (.cat rfl rfl (by (try simp only [List.length_append, List.length_cons, List.length_nil]) <;> omega)) hS91 rfl ?_
 refine WH.tp 19 rfl (.cat rfl rfl (by (try simp only [List.length_append, List.length_cons, List.length_nil]) <;> omega)) hS91 rfl ?_
 refine WH.br1 23 rfl ?_
 refine WL.c1 hb37 rfl rfl ((ref_Dec _ _ oO oO)) (fun w95 hw95 => ?_)
 have hS96 := Below.trans hS91 (Below.mono hw95 hS91.size)
 have hk97 := hk92.below hw95 hk92.lt
 have hk98 := hk93.below hw95 hk93.lt
 have hB99 := btr hB94 hw95
 refine WL.nil <| ?_
 refine ⟨hS96, ?_⟩
 refine WH.tp 24 rfl (.cat rfl rfl (by (try simp only [List.length_append, List.length_cons, List.length_nil]) <;> omega)) hS96 rfl ?_
 refine WH.tp 25 rfl (.as rfl) hS96 rfl ?_
 refine WH.done kR ?_
 refine W.seq <| W.sr <| WL.z rfl rfl ?_
 refine W.block ?_
 refine W.loop (α := Nat) (fun t => [(1, .pointer (some ⟨b1, 0, none⟩)), (3, .string (bs (x.fClips.flatMap clipT ++ headT x.fKind ++ smT x.fColor.fSpace ++ numsT ((parts x.fColor).take x.fColor.fSpace.toNat) ++ numT x.fPen.fWidth ++ smT x.fPen.fCap ++ smT x.fPen.fJoin ++ numT x.fPen.fMiter ++ smT (x.fPen.fDash.length : Int) ++ numsT (x.fPen.fDash.take t)))), (10, .pointer (some ⟨b63, 0, none⟩)), (11, .int .i64 (t : Int))]) (fun t w' => Below w.heap.size w w' ∧ Blk w' b1 (itemV x).toArray 87 ∧ Blk w' b63 (penV x.fPen).toArray 84 ∧ t ≤ x.fPen.fDash.length) (fun t => x.fPen.fDash.length - t) (0) ⟨rfl, lk_s rfl (by simp [numsT, smT]), rfl, rfl, trivial⟩ (⟨hB99, hk97, hk98, Nat.zero_le _⟩) (fun t w1 hR => ?_)
 obtain ⟨d, rfl⟩ : ∃ k, k = t := ⟨t, rfl⟩
 obtain ⟨hT5, hk5, hk10, hd⟩ := hR
 have hrda := (hx.below hT5).ok_fPen.row_fDash
 have hdt := fm_take_len numT_len x.fPen.fDash d
 have hs1 : (smT x.fPen.fCap).length ≤ 22 := by unfold smT; simp only [List.length_cons]; omega
 have hs2 : (smT x.fPen.fJoin).length ≤ 22 := by unfold smT; simp only [List.length_cons]; omega
 have hs3 : (smT (x.fPen.fDash.length : Int)).length ≤ 22 := by unfold smT; simp only [List.length_cons]; omega
 refine W.seq <| W.sr <| WL.m rfl rfl <| WL.p (.fa underlying84 rfl sizeOf82 dD rfl) rfl <| WL.r (Rd.ld (isAgg82 _) rfl hk10 rfl) rfl <| WL.p (.lenS underlying82 rfl) rfl <| WL.p (.lss rfl rfl) rfl <| WL.nil <| ?_
 refine W.cond rfl (fun h100 => ?_) (fun h100 => ?_)
 have h100' := dT h100
 have hdl : d < x.fPen.fDash.length := by omega
 have hnd := hnl x.fPen.fDash[d]
 have hdtk : numsT (x.fPen.fDash.take (d + 1)) = numsT (x.fPen.fDash.take d) ++ numT x.fPen.fDash[d] := flatMap_take hdl
 refine W.skip <| W.seq <| W.block <| W.reg <| WL.m rfl rfl <| WL.p (.fa underlying84 rfl sizeOf82 dD rfl) rfl <| WL.r (Rd.ld (isAgg82 _) rfl hk10 rfl) rfl <| WL.m rfl rfl <| WL.p (.ixb underlying82 sizeOf3 rfl rfl (hrda.isp oO) (d) (rfl) oO) rfl <| WL.r (Rd.ldc (isAgg3 _) rfl (hrda.cells (d) oO)) rfl <| WL.c1 hb57 rfl rfl ((ref_num _ _)) (fun w101 hw101 => ?_)
 have hk102 := hk5.below hw101 hk5.lt
 have hk103 := hk10.below hw101 hk10.lt
 have hB105 := btr hT5 hw101
 refine WL.p (.cat rfl rfl (by simp only [List.length_append, numsT] at *; omega)) rfl <| WL.z rfl rfl ?_
 refine W.reg <| WL.m rfl rfl <| WL.p (.iis (((d + 1 : Nat) : Int)) (.add rfl rfl (i64w oO)) oO) rfl <| WL.z rfl rfl ?_
 exact ⟨d + 1, ⟨rfl, lk_s rfl (by rw [hdtk]; simp only [List.append_assoc]), rfl, rfl, trivial⟩, ⟨hB105, hk102, hk103, by ((try simp only) <;> omega)⟩, by ((try simp only) <;> omega)⟩
 have h100' := dF h100
 have hde : x.fPen.fDash.take d = x.fPen.fDash := List.take_of_length_le oO
 refine W.exit <| W.reg <| WL.m rfl rfl <| WL.p (.fa underlying84 rfl sizeOf3 dD rfl) rfl <| WL.r (Rd.ld (isAgg3 _) rfl hk10 rfl) rfl <| WL.c1 hb57 rfl rfl ((ref_num _ _)) (fun w106 hw106 => ?_)
 have hk107 := hk5.below hw106 hk5.lt
 have hB110 := btr hT5 hw106
 refine WL.p (.cat rfl rfl (by simp only [List.length_append, numsT] at *; omega)) rfl <| WL.z rfl rfl ?_
 first
 | exact ⟨(), ⟨rfl, lk_s rfl (by rw [if_pos aS, hde, penT]; simp only [List.append_assoc]), trivial⟩, hB110, hk107⟩
 | exact ⟨(), ⟨rfl, lk_s rfl (by rw [if_neg aS, List.append_nil]), trivial⟩, hB110, hk107⟩
 have h62' := dF h62
 refine W.skip ?_
 first
 | exact ⟨(), ⟨rfl, lk_s rfl (by rw [if_pos aS, hde, penT]; simp only [List.append_assoc]), trivial⟩, hT2, hk2⟩
 | exact ⟨(), ⟨rfl, lk_s rfl (by rw [if_neg aS, List.append_nil]), trivial⟩, hT2, hk2⟩
 obtain ⟨hm1, hm2⟩ := hR
 have hpe : (if x.fKind = 3 then penT x.fPen else []).length ≤ 100000000 := by
  split
  have w1' := hnl x.fPen.fWidth; have w2' := hnl x.fPen.fMiter; have w3' := hnl x.fPen.fPhase
  have c1' := decL_le _ (wf_i64 hx.ok_fPen.wf_fCap).1 (wf_i64 hx.ok_fPen.wf_fCap).2
  have c2' := decL_le _ (wf_i64 hx.ok_fPen.wf_fJoin).1 (wf_i64 hx.ok_fPen.wf_fJoin).2
  have c3' := decL_le (x.fPen.fDash.length : Int) oO oO
  have hdt := fm_len numT_len x.fPen.fDash
  unfold penT smT numsT; simp only [List.length_append, List.length_cons]; omega
  simp
 refine W.sr <| WL.m rfl rfl <| WL.p (.fa underlying87 rfl sizeOf77 dD rfl) rfl <| WL.r (Rd.ld (isAgg77 _) rfl hm2 rfl) rfl <| WL.c1 hb101 rfl rfl ((ref_path _ _ _ _ (hx.below hm1).row_fPath hpa)) (fun w111 hw111 => ?_)
 have hB113 := btr hm1 hw111
 refine WL.p (.cat rfl rfl (by (try simp only [List.length_append, List.length_cons, List.length_nil]) <;> omega)) rfl <| WL.p (.cat rfl rfl (by (try simp only [List.length_append, List.length_cons, List.length_nil]) <;> omega)) rfl <| WL.z rfl rfl ?_
 refine W.ret (W.ret1 rfl rfl ?_)
 first
 | exact ⟨ret_str (by rw [hbe, itemT, if_pos (show x.fKind = 4 by assumption), colorT]; simp only [List.append_assoc, List.cons_append, List.nil_append]), hB113⟩
 | exact ⟨ret_str (by rw [itemT, if_neg (show ¬ x.fKind = 4 by assumption), colorT]; simp only [List.append_assoc]), hB113⟩
end
section
def pageH (x : PageV) : List UInt8 := [112, 97, 103, 101] ++ numT x.fWidth ++ numT x.fHeight ++ [10]
def pageT (x : PageV) : List UInt8 := pageH x ++ x.fItems.flatMap itemT
def pagesT (l : List PageV) : List UInt8 := l.flatMap pageT
theorem fm_part {α : Type} {g : α → List UInt8} {l : List α} {i : Nat} (h : i < l.length) : ((l.take i).flatMap g).length + (g l[i]).length ≤ (l.flatMap g).length := by
 have e : l = l.take (i + 1) ++ l.drop (i + 1) := (List.take_append_drop (i + 1) l).symm
 have h1 := congrArg (fun m => (m.flatMap g).length) e
 simp only [List.flatMap_append, List.length_append] at h1
 rw [flatMap_take h, List.length_append] at h1; omega
theorem fm_pre {α : Type} {g : α → List UInt8} (l : List α) (i : Nat) : ((l.take i).flatMap g).length ≤ (l.flatMap g).length := by
 have h1 := congrArg (fun m => (m.flatMap g).length) (List.take_append_drop i l).symm
 simp only [List.flatMap_append, List.length_append] at h1; omega
theorem pages_items {l : List PageV} (hb : ∀ x ∈ l, pageB x = true) {i : Nat} (hi : i < l.length) {k : Nat} (hk : k < l[i].fItems.length) : itemB l[i].fItems[k] = true := by
 have h := hb _ (List.getElem_mem hi)
 unfold pageB at h
 simp only [Bool.and_eq_true, List.all_eq_true] at h
 exact h.2 _ (List.getElem_mem hk)
set_option maxHeartbeats 1600000 in
theorem ref26_Print (p : Option Addr) (l : List PageV) (c : Nat) (w : World) (hr : RowM pageL w p l) (hs : PagesS l) (ho : ∀ x ∈ l, PageOk w x) (hb : ∀ x ∈ l, pageB x = true) (hT : (pagesT l).length ≤ 1000000) :
  Calls Tryz.prog 29 #[.slice p l.length c] w fun e w' => e = .returned (.string (bs (pagesT l))) ∧ Below w.heap.size w w' := by
 have hrl : 0 < l.length → (pA p).block < w.heap.size := fun h0 => hr.lt h0
 have hl := hs.len
 have hnl := fun n => numT_len n
 refine W.enter func29 rfl ntmps29 (Nat.le_of_ble_eq_true rfl) ?_
 have hB0 := Below.refl (w.heap.size) w
 refine W.sr <| WL.z rfl rfl ?_
 refine W.sr <| WL.z rfl rfl ?_
 refine W.seq <| W.sr <| WL.z rfl rfl ?_
 refine W.block ?_
 refine W.loop (α := Nat) (fun t => [(0, .slice p l.length c), (3, .string (bs (pagesT (l.take t)))), (4, .int .i64 (t : Int))]) (fun t w' => Below w.heap.size w w' ∧ t ≤ l.length) (fun t => l.length - t) (0) ⟨rfl, rfl, rfl, trivial⟩ (⟨hB0, Nat.zero_le _⟩) (fun t w1 hR => ?_)
 obtain ⟨i, rfl⟩ : ∃ i, i = t := ⟨t, rfl⟩
 obtain ⟨hT1, hi⟩ := hR
 have hrb := hr.below hT1 hrl
 have hpre : (pagesT (l.take i)).length ≤ 1000000 := Nat.le_trans (fm_pre l i) hT
 refine W.seq <| W.sr <| WL.m rfl rfl <| WL.m rfl rfl <| WL.p (.lenS underlying47 rfl) rfl <| WL.p (.lss rfl rfl) rfl <| WL.nil <| ?_
 refine W.cond rfl (fun h1 => ?_) (fun h1 => ?_)
 have h1' := dT h1
 have hil : i < l.length := by omega
 have hpo := ho _ (List.getElem_mem hil)
 have hps := hs.items _ (List.getElem_mem hil)
 have hft : pagesT (l.take (i + 1)) = pagesT (l.take i) ++ pageT l[i] := flatMap_take hil
 have hpart : (pagesT (l.take i)).length + (pageT l[i]).length ≤ 1000000 := Nat.le_trans (fm_part hil) hT
 have n1 := hnl l[i].fWidth; have n2 := hnl l[i].fHeight
 have hitl : 0 < l[i].fItems.length → (pA l[i].pfItems).block < w.heap.size := fun h0 => hpo.row_fItems.lt h0
 have hph : (pageT l[i]).length = (pageH l[i]).length + (l[i].fItems.flatMap itemT).length := by unfold pageT; rw [List.length_append]
 refine W.skip <| W.seq <| W.block <| W.seq <| W.regH 18 rfl mixed (fun w' => Below w1.heap.size w1 w') (fun w2 dw2 => ?_)
 have hv3 := hrb.drew dw2
 have hB4 := Drew.below hT1 dw2
 have hS5 : Below w1.heap.size w1 w2 := Drew.below (Below.refl _ _) dw2
 refine WH.tp 0 rfl (.mv rfl) hS5 rfl ?_
 refine WH.tp 1 rfl (.cat rfl rfl (by (try simp only [List.length_append, List.length_cons, List.length_nil] at *) <;> omega)) hS5 rfl ?_
 refine WH.tp 2 rfl (.mv rfl) hS5 rfl ?_
 refine WH.tp 3 rfl (.mv rfl) hS5 rfl ?_
 refine WH.tp 4 rfl (.ixm underlying47 sizeOf76 rfl rfl (hv3.isp oO) (i) (rfl) oO) hS5 rfl ?_
 refine WH.tp 5 rfl (.fa underlying76 rfl sizeOf3 dD rfl) hS5 rfl ?_
 refine WH.tk 6 rfl (fun w' hw' => Rd.ldc (isAgg3 _) rfl (((hrb.below hw' (fun h0 => hrb.lt h0)).field (i) oO 0 dD).trans rfl)) hS5 rfl ?_
 refine WH.tp 9 rfl (.mv rfl) hS5 rfl ?_
 refine WH.tp 10 rfl (.mv rfl) hS5 rfl ?_
 refine WH.tp 11 rfl (.ixm underlying47 sizeOf76 rfl rfl (hv3.isp oO) (i) (rfl) oO) hS5 rfl ?_
 refine WH.tp 12 rfl (.fa underlying76 rfl sizeOf3 dD rfl) hS5 rfl ?_
 refine WH.tk 13 rfl (fun w' hw' => Rd.ldc (isAgg3 _) rfl (((hrb.below hw' (fun h0 => hrb.lt h0)).field (i) oO 1 dD).trans rfl)) hS5 rfl ?_
 refine WH.br1 7 rfl ?_
 refine WL.c1 hb57 rfl rfl ((ref_num _ _)) (fun w6 hw6 => ?_)
 have hS7 := Below.trans hS5 (Below.mono hw6 hS5.size)
 have hB9 := btr hB4 hw6
 refine WL.nil <| ?_
 refine ⟨hS7, ?_⟩
 refine WH.tp 8 rfl (.cat rfl rfl (by (try simp only [List.length_append, List.length_cons, List.length_nil] at *) <;> omega)) hS7 rfl ?_
 refine WH.br1 14 rfl ?_
 refine WL.c1 hb57 rfl rfl ((ref_num _ _)) (fun w10 hw10 => ?_)
 have hS11 := Below.trans hS7 (Below.mono hw10 hS7.size)
 have hB13 := btr hB9 hw10
 refine WL.nil <| ?_
 refine ⟨hS11, ?_⟩
 refine WH.tp 15 rfl (.cat rfl rfl (by (try simp only [List.length_append, List.length_cons, List.length_nil] at *) <;> omega)) hS11 rfl ?_
 refine WH.tp 16 rfl (.cat rfl rfl (by (try simp only [List.length_append, List.length_cons, List.length_nil] at *) <;> omega)) hS11 rfl ?_
 refine WH.tp 17 rfl (.as rfl) hS11 rfl ?_
 refine WH.done kR ?_
 refine W.sr <| WL.z rfl rfl ?_
 refine W.block ?_
 refine W.loop (α := Nat) (fun t => [(0, .slice p l.length c), (3, .string (bs (pagesT (l.take i) ++ pageH l[i] ++ (l[i].fItems.take t).flatMap itemT))), (4, .int .i64 (i : Int)), (5, .int .i64 (t : Int))]) (fun t w' => Below w.heap.size w w' ∧ t ≤ l[i].fItems.length) (fun t => l[i].fItems.length - t) (0) ⟨rfl, lk_s rfl (by simp [pageH]), rfl, rfl, trivial⟩ (⟨hB13, Nat.zero_le _⟩) (fun t w1 hR => ?_)
 obtain ⟨k, rfl⟩ : ∃ k, k = t := ⟨t, rfl⟩
 obtain ⟨hT2, hk⟩ := hR
 have hrb2 := hr.below hT2 hrl
 have hrit2 := (hpo.below hT2).row_fItems
 refine W.seq <| W.sr <| WL.m rfl rfl <| WL.m rfl rfl <| WL.m rfl rfl <| WL.p (.ixm underlying47 sizeOf76 rfl rfl (hrb2.isp oO) (i) (rfl) oO) rfl <| WL.p (.fa underlying76 rfl sizeOf74 dD rfl) rfl <| WL.r (Rd.ldc (isAgg74 _) rfl ((hrb2.field (i) oO 2 dD).trans rfl)) rfl <| WL.p (.lenS underlying74 rfl) rfl <| WL.p (.lss rfl rfl) rfl <| WL.nil <| ?_
 refine W.cond rfl (fun h14 => ?_) (fun h14 => ?_)
 have h14' := dT h14
 have hkl : k < l[i].fItems.length := by omega
 have hio := hpo.all_fItems _ (List.getElem_mem hkl)
 have his := hps.2 _ (List.getElem_mem hkl)
 have hkb := pages_items hb hil hkl
 have hik : (l[i].fItems.take (k + 1)).flatMap itemT = (l[i].fItems.take k).flatMap itemT ++ itemT l[i].fItems[k] := flatMap_take hkl
 have hip := fm_part (g := itemT) hkl
 refine W.skip <| W.seq <| W.block <| W.reg <| WL.m rfl rfl <| WL.m rfl rfl <| WL.m rfl rfl <| WL.p (.ixm underlying47 sizeOf76 rfl rfl (hrb2.isp oO) (i) (rfl) oO) rfl <| WL.p (.fa underlying76 rfl sizeOf74 dD rfl) rfl <| WL.r (Rd.ldc (isAgg74 _) rfl ((hrb2.field (i) oO 2 dD).trans rfl)) rfl <| WL.m rfl rfl <| WL.p (.ixm underlying74 sizeOf87 rfl rfl (hrit2.isp oO) (k) (rfl) oO) rfl <| WL.r (Rd.ldS underlying87 rfl isz87 hrit2 (k) oO rfl) rfl <| WL.c1 hb58 rfl rfl ((ref_item _ _ (hio.below hT2) his hkb)) (fun w15 hw15 => ?_)
 have hB18 := btr hT2 hw15
 refine WL.p (.cat rfl rfl (by (try simp only [List.length_append, List.length_cons, List.length_nil] at *) <;> omega)) rfl <| WL.z rfl rfl ?_
 refine W.reg <| WL.m rfl rfl <| WL.p (.iis (((k + 1 : Nat) : Int)) (.add rfl rfl (i64w oO)) oO) rfl <| WL.z rfl rfl ?_
 exact ⟨k + 1, ⟨rfl, lk_s rfl (by rw [hik]; simp only [List.append_assoc]), rfl, rfl, trivial⟩, ⟨hB18, by ((try simp only) <;> omega)⟩, by ((try simp only) <;> omega)⟩
 have h14' := dF h14
 have hke : l[i].fItems.take k = l[i].fItems := List.take_of_length_le oO
 refine W.exit <| W.reg <| WL.m rfl rfl <| WL.p (.iis (((i + 1 : Nat) : Int)) (.add rfl rfl (i64w oO)) oO) rfl <| WL.z rfl rfl ?_
 exact ⟨i + 1, ⟨rfl, lk_s rfl (by rw [hft, pageT, hke]; simp only [List.append_assoc]), rfl, trivial⟩, ⟨hT2, by ((try simp only) <;> omega)⟩, by ((try simp only) <;> omega)⟩
 have h1' := dF h1
 refine W.exit <| W.sr <| WL.m rfl rfl <| WL.z rfl rfl ?_
 refine W.ret (W.ret1 rfl rfl ?_)
 exact ⟨ret_str (by rw [List.take_of_length_le oO]), hT1⟩
theorem parts_take_len (x : ColorV) (k : Nat) : (numsT ((parts x).take k)).length ≤ 244 := fm_take_len numT_len (parts x) k
theorem itemT_len {w : World} {x : ItemV} (hx : ItemOk w x) (hk : itemB x = true) (hs : ItemS x) : (itemT x).length ≤ 368 * (5 + itemW x + clipW x) := by
 obtain ⟨-, -, hsp, -⟩ := itemB_kind hk
 have h1 : (smT x.fColor.fSpace).length ≤ 22 := by have := decL_le x.fColor.fSpace oO oO; unfold smT; simp only [List.length_cons]; omega
 have h2 := parts_take_len x.fColor x.fColor.fSpace.toNat
 have h3 := headT_len x.fKind
 have h4 : (smT x.fFont).length ≤ 22 := by have := decL_le _ (wf_i64 hx.wf_fFont).1 (wf_i64 hx.wf_fFont).2; unfold smT; simp only [List.length_cons]; omega
 have h5 : (numsT (mats x)).length ≤ 366 := fm_len numT_len (mats x)
 have h6 := fm_len hexT_len x.fBytes
 have h7 := pathT_len x.fPath
 have hda := hs.dash
 have h8 : (penT x.fPen).length ≤ 300 + 61 * x.fPen.fDash.length := by
  have a1 := numT_len x.fPen.fWidth; have a2 := numT_len x.fPen.fMiter; have a3 := numT_len x.fPen.fPhase
  have c1 := decL_le _ (wf_i64 hx.ok_fPen.wf_fCap).1 (wf_i64 hx.ok_fPen.wf_fCap).2
  have c2 := decL_le _ (wf_i64 hx.ok_fPen.wf_fJoin).1 (wf_i64 hx.ok_fPen.wf_fJoin).2
  have c3 := decL_le (x.fPen.fDash.length : Int) oO oO
  have c4 := fm_len numT_len x.fPen.fDash
  unfold penT smT numsT; simp only [List.length_append, List.length_cons]; omega
 have h9 : ∀ l : List ClipV, (l.flatMap clipT).length ≤ 368 * (5 * l.length + sumOf (fun c : ClipV => c.fPath.length) l) := by
  intro l
  induction l with
  | nil => simp
  | cons c l ih =>
   have hc : (clipT c).length ≤ 7 + 368 * c.fPath.length := by
    have := pathT_len c.fPath
    unfold clipT; split <;> simp only [List.length_append, List.length_cons, List.length_nil] <;> omega
   have e : sumOf (fun c : ClipV => c.fPath.length) (c :: l) = c.fPath.length + sumOf (fun c : ClipV => c.fPath.length) l := by simp [sumOf]
   rw [e]
   simp only [List.flatMap_cons, List.length_append, List.length_cons]; omega
 have h10 := h9 x.fClips
 unfold itemT colorT itemW clipW
 split
 ·
  simp only [List.length_append, List.length_cons, List.length_nil]; omega
 ·
  split <;> simp only [List.length_append, List.length_cons, List.length_nil] <;> omega
theorem pagesT_len {w : World} : ∀ (l : List PageV), (∀ x ∈ l, PageOk w x) → (∀ x ∈ l, pageB x = true) → (∀ x ∈ l, ∀ y ∈ x.fItems, ItemS y) → (pagesT l).length ≤ 368 * pagesW l
 | [], _, _, _ => by simp [pagesT]
 | x :: l, ho, hb, hs => by
  have ih := pagesT_len l (fun y hy => ho y (List.mem_cons_of_mem _ hy)) (fun y hy => hb y (List.mem_cons_of_mem _ hy)) (fun y hy => hs y (List.mem_cons_of_mem _ hy))
  have hx := ho x (List.mem_cons_self ..)
  have hxb : ∀ y ∈ x.fItems, itemB y = true := by
   have h := hb x (List.mem_cons_self ..)
   unfold pageB at h
   simp only [Bool.and_eq_true, List.all_eq_true] at h
   exact h.2
  have hxs := hs x (List.mem_cons_self ..)
  have key : ∀ m : List ItemV, (∀ y ∈ m, ItemOk w y ∧ itemB y = true ∧ ItemS y) → (m.flatMap itemT).length ≤ 368 * (5 * m.length + sumOf (fun y => itemW y + clipW y) m) := by
   intro m
   induction m with
   | nil => intro _; simp
   | cons y m ihm =>
    intro hm
    have h1 := ihm fun z hz => hm z (List.mem_cons_of_mem _ hz)
    have h2 := hm y (List.mem_cons_self ..)
    have h3 := itemT_len h2.1 h2.2.1 h2.2.2
    have e : sumOf (fun y => itemW y + clipW y) (y :: m) = (itemW y + clipW y) + sumOf (fun y => itemW y + clipW y) m := by simp [sumOf]
    rw [e]
    simp only [List.flatMap_cons, List.length_append, List.length_cons]; omega
  have h4 := key x.fItems fun y hy => ⟨hx.all_fItems y hy, hxb y hy, hxs y hy⟩
  have n1 := numT_len x.fWidth; have n2 := numT_len x.fHeight
  have e : pagesW (x :: l) = 1 + pageW x + pagesW l := by unfold pagesW; simp [sumOf]; omega
  have e2 : pagesT (x :: l) = pageH x ++ x.fItems.flatMap itemT ++ pagesT l := by simp [pagesT, pageT]
  rw [e, e2]
  unfold pageW pageH
  simp only [List.length_append, List.length_cons, List.length_nil]; omega
end
section
theorem szB : (Tryz.prog.info? 113).map (·.size) = some 2 := by kernel_rfl
theorem liesP : liesAt Tryz.prog Tryz.prog.depth 115 (2 / Tryz.prog.cellsOf 115) 0 113 1 = true := by kernel_rfl
set_option maxHeartbeats 1000000 in
set_option maxRecDepth 100000 in
theorem copyCheck_used (b : Nat) (w : World) (h0 : w.cell? ⟨b, 0, none⟩ = some (.pointer (some ⟨b, 0, none⟩))) :
  Calls Tryz.prog 119 #[.pointer (some ⟨b, 0, none⟩)] w fun e w' => e = .returned (.tuple #[]) ∧ w' = w := by
 obtain ⟨j, hj, _⟩ := Option.map_eq_some_iff.1 szB
 go_enter func119, ntmps119
 go_wp2
 rw [Lib.run_neq_ptr_same w _ underlying111 hj]
 go_wp2
 go_end0
 exact ⟨rfl, rfl⟩
set_option maxHeartbeats 1000000 in
set_option maxRecDepth 100000 in
theorem copyCheck_fresh (b : Nat) (w : World) (h0 : w.cell? ⟨b, 0, none⟩ = some (.pointer none)) (hsh : w.shape? b = some (115, 2)) (hfz : w.frozen? ⟨b, 0, none⟩ = false) :
  Calls Tryz.prog 119 #[.pointer (some ⟨b, 0, none⟩)] w fun e w' => e = .returned (.tuple #[]) ∧ w' = w.setCell ⟨b, 0, none⟩ (.pointer (some ⟨b, 0, none⟩)) := by
 obtain ⟨j, hj, hjs⟩ := Option.map_eq_some_iff.1 szB
 go_enter func119, ntmps119
 go_wp2
 rw [Lib.run_to_unsafe w ⟨b, 0, none⟩ underlying111 underlying209 hj (by rw [hjs]; decide) hsh (Nat.zero_lt_succ 1)]
 simp only [Result.andThen]
 rw [Oper.upon_value]
 go_wp2
 rw [run_callFunc_extern func177 kR kR kR (e := Extern.AbiNoEscape.same) kR]
 rw [Lib.run_noEscape]
 simp only [Result.andThen]
 rw [Oper.upon_value]
 go_wp2
 rw [Lib.run_from_unsafe w ⟨b, 0, none⟩ underlying209 underlying111 hj hsh liesP]
 simp only [Result.andThen]
 rw [Oper.upon_value]
 go_wp2
 go_end0
 exact ⟨rfl, rfl⟩
end
section
section
variable {P : Program} {n : Sh} {f : Fr}
theorem append_string_at {w : World} {B : Nat} {t u ty e : TypeId} {i : TypeInfo} (ht : P.underlying t = some (.slice e)) (hu : P.underlying u = some .string) (hi : P.info? e = some i) (hz : i.zero = some (.int .u8 0))
    (hsize : i.size = 1) (hby : i.bytes = 1) {v : Value} {m : Nat} {xs : List Value} (hown : w.ownsRow B e 1 v m xs) {s : ByteArray} (h : m + s.size ≤ 1000000000) {v' : Value} {w' : World}
    (hr : (Builtin.append_ #[t, u] ty #[v, .string s]).run P w = .ok v' w') : ∀ g, v'.ownBlock = some g → v.ownBlock = some g ∨ w.heap.size ≤ g := by
  have hxl : xs.length = m := by simpa using hown.1
  rcases hown.2 with ⟨rfl, rfl⟩ | ⟨g, cap, cur, rfl, hbg, hg, hnc, hcm, hcs, htake⟩
  · have hx : xs = [] := List.eq_nil_of_length_eq_zero hxl
    subst hx
    obtain ⟨v2, w2, h2, h3, -, -⟩ := Lib.run_append_own_string (P := P) w w.heap.size t u ty e i ht hu hi hz hsize hby (.slice none 0 0) 0 [] (World.ownsRow_nil w w.heap.size e 1) s (by unfold maxLen; omega) oO (Nat.le_refl _)
    have he := hr.symm.trans h2
    simp only [Result.ok.injEq] at he
    obtain ⟨rfl, rfl⟩ := he
    intro g hg
    exact .inr (h3.lt g hg).1
  · by_cases hroom : m + s.size ≤ cap
    · have h2 := Lib.run_append_room_string (P := P) w t u ty e i ht hu hi hsize g m cap cur hg s hroom oO
      have he := hr.symm.trans h2
      simp only [Result.ok.injEq] at he
      obtain ⟨rfl, rfl⟩ := he
      intro k hk
      exact .inl (by simpa [Value.ownBlock] using hk)
    · have holds : ∀ j u, xs[j]? = some u → w.cell? ((⟨g, 0, none⟩ : Addr).add j) = some u := hown.cells (g := g) rfl
      have h2 := Lib.run_append_grow_string (P := P) w t u ty e i (.int .u8 0) ht hu hi hz ⟨g, 0, none⟩ m cap xs (by rw [hsize]; simpa using hxl) holds s oO oO (by rw [hby]; exact growslice_fits oO oO)
      have he := hr.symm.trans h2
      simp only [Result.ok.injEq] at he
      obtain ⟨rfl, rfl⟩ := he
      intro k hk
      simp only [Value.ownBlock, Option.some.injEq] at hk
      exact .inr oO
theorem WL.appSf {ops : Array Oper} {Q : Exit → Fr → World → Prop} {w : World} {rest : List Oper} {d ty : Nat} {pos : String} {aft : Array Edge} {s x : Operand} {t u e : TypeId} {B : Nat} {v : Value} {xs : List Value} {l : List UInt8}
    (ht : P.underlying t = some (.slice e)) (hu : P.underlying u = some .string) (hi : (P.info? e).map (fun i => (i.zero, i.size, i.bytes)) = some (some (.int .u8 0), 1, 1))
    (hs : evo f s = some v) (hown : Own e B w v xs) (hx : evo f x = some (.string (bs l)))
    (hn : xs.length + l.length ≤ 1000000000) (hB : B ≤ w.heap.size) (hd : Nat.blt d n.n = true)
    (k : ∀ v' w', Own e B w' v' (xs ++ byteVals l) → Below B w w' → w.grownBy w' v.ownBlock → (∀ g, v'.ownBlock = some g → v.ownBlock = some g ∨ w.heap.size ≤ g) → WL P n ops Q rest ((d, v') :: f) w') :
    WL P n ops Q (⟨some d, .call ⟨.builtin .append, #[s, x], #[t, u]⟩, ty, pos, aft, none⟩ :: rest) f w := by
  cases hh : P.info? e with
  | none => rw [hh] at hi; cases hi
  | some i =>
    rw [hh] at hi
    simp only [Option.map_some, Option.some.injEq, Prod.mk.injEq] at hi
    obtain ⟨hz, hsize, hby⟩ := hi
    have hsz : (bs l).size = l.length := bs_size l
    have hcells : Lib.strCells (bs l) = byteVals l := by simp [Lib.strCells, byteVals, bs]
    obtain ⟨v', w', h2, h3, h4, -⟩ := Lib.run_append_own_string (P := P) w B t u ty e i ht hu hh hz hsize hby v xs.length xs hown (bs l) (by rw [hsz]; unfold maxLen; omega) (by rw [hsz]; omega) hB
    have h5 := append_string_at (P := P) ht hu hh hz hsize hby hown (s := bs l) (by rw [hsz]; exact hn) h2
    rw [hsz, hcells] at h3
    refine WL.run hd (w' := w') (v := v') (fun ρ hρ => ?_) (k v' w' ?_ ((Below.refl _ _).grown h4 hB fun k hk => (hown.lt k hk).1) h4 h5)
    · unfold execOp
      simp only [resolve, invoke, builtin, Sem.run_bind, Sem.run_pure, Result.andThen_ok, List.map_toArray, List.map_cons, List.map_nil, hρ _ _ hs, hρ _ _ hx, h2]
    · have e1 : (xs ++ byteVals l).length = xs.length + l.length := by simp [byteVals]
      unfold Own
      rw [e1]; exact h3
theorem append_one_at {w : World} {B : Nat} {t ty e : TypeId} {i : TypeInfo} {z : Value} {by' : Nat} (ht : P.underlying t = some (.slice e)) (hi : P.info? e = some i) (hz : i.zero = some z) (hsize : i.size = 1) (hby : i.bytes = by') (hby2 : by' ≤ 16) (hzs : z.cells.size = 1)
    {v : Value} {m : Nat} {xs : List Value} (hown : w.ownsRow B e 1 v m xs) {a : Addr} {c : Nat} {u : Value} (hnews : ∀ j y, [u][j]? = some y → w.cell? (a.add j) = some y) (h1 : u.oneCell' = true) (hm : m ≤ 1000000000) {v' : Value} {w' : World}
    (hr : (Builtin.append_ #[t, t] ty #[v, .slice (some a) 1 c]).run P w = .ok v' w') : ∀ g, v'.ownBlock = some g → v.ownBlock = some g ∨ w.heap.size ≤ g := by
  have hbb : (m + 1) * by' ≤ (m + 1) * 16 := Nat.mul_le_mul_left _ hby2
  rcases hown.2 with ⟨rfl, rfl⟩ | ⟨g, cap, cur, rfl, hbg, hg, hnc, hcm, hcs, htake⟩
  · have hx : xs = [] := List.eq_nil_of_length_eq_zero (by simpa using hown.1)
    subst hx
    obtain ⟨v2, w2, h2, h3, -, -⟩ := run_append_own (P := P) (w := w) w.heap.size t ty e i z 1 by' ht hi hz hsize hby hzs dD (.slice none 0 0) 0 [] (World.ownsRow_nil w w.heap.size e 1) a 1 c [u] rfl hnews (by simpa using h1) (by unfold maxLen; omega) oO (Nat.le_refl _)
    have he := hr.symm.trans h2
    simp only [Result.ok.injEq] at he
    obtain ⟨rfl, rfl⟩ := he
    intro g hg
    exact .inr (h3.lt g hg).1
  · by_cases hroom : m + 1 ≤ cap
    · have hfit : m * i.size + [u].length ≤ cur.size := by rw [hsize]; have : cur.size = cap * 1 := hcs; simp; omega
      have h2 := run_append_room (P := P) w t ty e i ht hi g m cap cur hg a 1 c [u] (by rw [hsize]; rfl) hnews (by simpa using h1) hroom hfit
      have he := hr.symm.trans h2
      simp only [Result.ok.injEq] at he
      obtain ⟨rfl, rfl⟩ := he
      intro k hk
      exact .inl (by simpa [Value.ownBlock] using hk)
    · have holds : ∀ j u, xs[j]? = some u → w.cell? ((⟨g, 0, none⟩ : Addr).add j) = some u := hown.cells (g := g) rfl
      have h2 := run_append_grow (P := P) w t ty e i z ht hi hz ⟨g, 0, none⟩ m cap xs (by rw [hsize]; exact hown.1) holds a 1 c [u] (by rw [hsize]; rfl) hnews oO oO (growslice_fits oO (by rw [hby]; omega))
      have he := hr.symm.trans h2
      simp only [Result.ok.injEq] at he
      obtain ⟨rfl, rfl⟩ := he
      intro k hk
      simp only [Value.ownBlock, Option.some.injEq] at hk
      exact .inr oO
theorem WL.appmf {ops : Array Oper} {Q : Exit → Fr → World → Prop} {w : World} {rest : List Oper} {d ty : Nat} {pos : String} {aft : Array Edge} {s x : Operand} {t e : TypeId} {B : Nat} {z v u : Value} {xs : List Value} {b c by' : Nat} {tb : TypeId}
    (ht : P.underlying t = some (.slice e)) (hi : (P.info? e).map (fun i => (i.zero, i.size, i.bytes)) = some (some z, 1, by')) (hby2 : Nat.ble by' 16 = true) (hzs : z.cells.size = 1)
    (hs : evo f s = some v) (hown : Own e B w v xs) (hx : evo f x = some (.slice (some ⟨b, 0, none⟩) 1 c)) (hb : Blk w b #[u] tb) (h1 : u.oneCell' = true)
    (hn : xs.length ≤ 1000000000) (hB : B ≤ w.heap.size) (hd : Nat.blt d n.n = true)
    (k : ∀ v' w', Own e B w' v' (xs ++ [u]) → Below B w w' → w.grownBy w' v.ownBlock → (∀ g, v'.ownBlock = some g → v.ownBlock = some g ∨ w.heap.size ≤ g) → WL P n ops Q rest ((d, v') :: f) w') :
    WL P n ops Q (⟨some d, .call ⟨.builtin .append, #[s, x], #[t, t]⟩, ty, pos, aft, none⟩ :: rest) f w := by
  cases hh : P.info? e with
  | none => rw [hh] at hi; cases hi
  | some i =>
    rw [hh] at hi
    simp only [Option.map_some, Option.some.injEq, Prod.mk.injEq] at hi
    obtain ⟨hz, hsize, hby⟩ := hi
    have hby3 : by' ≤ 16 := by simpa using hby2
    have hnews : ∀ j y, [u][j]? = some y → w.cell? ((⟨b, 0, none⟩ : Addr).add j) = some y := fun j y hj => by
      have h0 : j = 0 := by
        rcases Nat.eq_zero_or_pos j with h | h
        · exact h
        · rw [List.getElem?_eq_none (by simp; omega)] at hj; cases hj
      subst h0
      simp only [List.getElem?_cons_zero, Option.some.injEq] at hj
      subst hj
      rw [add_zero_addr, hb.cell 0]; rfl
    have hbb : (xs.length + 1) * by' ≤ (xs.length + 1) * 16 := Nat.mul_le_mul_left _ hby3
    obtain ⟨v', w', h2, h3, h4, -⟩ := run_append_own (P := P) (w := w) B t ty e i z 1 by' ht hh hz hsize hby hzs dD v xs.length xs hown ⟨b, 0, none⟩ 1 c [u] rfl hnews (by simpa using h1) (by unfold maxLen; omega) oO hB
    have h5 := append_one_at (P := P) ht hh hz hsize hby hby3 hzs hown hnews h1 hn h2
    refine WL.run hd (w' := w') (v := v') (fun ρ hρ => ?_) (k v' w' ?_ ((Below.refl _ _).grown h4 hB fun k hk => (hown.lt k hk).1) h4 h5)
    · unfold execOp
      simp only [resolve, invoke, builtin, Sem.run_bind, Sem.run_pure, Result.andThen_ok, List.map_toArray, List.map_cons, List.map_nil, hρ _ _ hs, hρ _ _ hx, h2]
    · have e1 : (xs ++ [u]).length = xs.length + 1 := by simp
      unfold Own
      rw [e1]; exact h3
end
end
end Go.Proofs.YtjghbcjnplcleaaGreatDoor
